/- Several texts in one file. -/
import Derived.Test.YtndlnfdaeipifaaGreatDoorLk
import Derived.Test.YtndlnfdaeipifaaGreatDoorBox
import Derived.Test.YtndlnfdaeipifaaGreatDoorPure11e
import Derived.Test.YtndlnfdaeipifaaGreatDoorPerm0
/- Books of grants without what is needless. Nothing of a program stands here. -/
namespace Go.Lx
open Go
set_option linter.unusedSimpArgs false
set_option linter.unusedVariables false
set_option linter.unnecessarySimpa false
theorem needB_iff {imp : Int → Int → Bool} {x y : Ent} : needB imp x y = true ↔ x ≠ y ∧ (x.r = y.r ∨ imp x.r y.r = true) ∧ impliesS y.p x.p = true := by
  unfold needB
  simp only [Bool.and_eq_true, Bool.or_eq_true, Bool.not_eq_true', beq_eq_false_iff_ne, ne_eq, beq_iff_eq]
  constructor
  · rintro ⟨⟨h1, h2⟩, h3⟩; exact ⟨h1, h2, h3⟩
  · rintro ⟨h1, h2, h3⟩; exact ⟨⟨h1, h2⟩, h3⟩
theorem needB_congr {imp imp' : Int → Int → Bool} {x y : Ent} (h : x.r ≠ y.r → imp x.r y.r = imp' x.r y.r) : needB imp x y = needB imp' x y := by
  unfold needB
  by_cases e : x.r = y.r
  · simp [e]
  · rw [h e]
theorem redL_congr {imp imp' : Int → Int → Bool} {m l : List Ent} (h : ∀ x ∈ l, ∀ y ∈ m, x.r ≠ y.r → imp x.r y.r = imp' x.r y.r) : redL imp m l = redL imp' m l := by
  unfold redL
  refine List.filter_congr fun x hx => ?_
  rw [Bool.eq_iff_iff, List.any_eq_true, List.any_eq_true]
  constructor
  · rintro ⟨y, hy, h1⟩; exact ⟨y, hy, by rw [← needB_congr (h x hx y hy)]; exact h1⟩
  · rintro ⟨y, hy, h1⟩; exact ⟨y, hy, by rw [needB_congr (h x hx y hy)]; exact h1⟩
structure ImpOk (imp : Int → Int → Bool) : Prop where
  tr : ∀ a b c : Int, imp a b = true → imp b c = true → imp a c = true
  rk : ∃ (ρ : Int → Nat) (N : Nat), (∀ a, ρ a ≤ N) ∧ ∀ a b, imp a b = true → a = b ∨ ρ a < ρ b
theorem mea_lt {a b c d N : Nat} (h : a < b) (hc : c ≤ N) : a * (N + 1) + c < b * (N + 1) + d := by
  have h1 : (a + 1) * (N + 1) ≤ b * (N + 1) := Nat.mul_le_mul_right _ h
  rw [Nat.succ_mul] at h1
  omega
theorem red_above {imp : Int → Int → Bool} (hi : ImpOk imp) {m : List Ent} (hm : OkG m) {x : Ent} (hx : x ∈ m) : ∃ y ∈ m, m.any (needB imp y) = false ∧ (x.r = y.r ∨ imp x.r y.r = true) ∧ impliesS y.p x.p = true := by
  obtain ⟨ρ, N, hN, hρ⟩ := hi.rk
  suffices H : ∀ (n : Nat) (x : Ent), muP x.p * (N + 1) + (N - ρ x.r) ≤ n → x ∈ m → ∃ y ∈ m, m.any (needB imp y) = false ∧ (x.r = y.r ∨ imp x.r y.r = true) ∧ impliesS y.p x.p = true from H _ x (Nat.le_refl _) hx
  intro n
  induction n using Nat.strongRecOn with
  | ind n ih =>
    intro x hn hx
    cases h : m.any (needB imp x) with
    | false => exact ⟨x, hx, h, .inl rfl, implies_self (hm.ve x hx).2.2.2⟩
    | true =>
      obtain ⟨z, hz, h1⟩ := List.any_eq_true.1 h
      obtain ⟨hne, hr, hp⟩ := needB_iff.1 h1
      have hlt : muP z.p * (N + 1) + (N - ρ z.r) < muP x.p * (N + 1) + (N - ρ x.r) := by
        by_cases e : x.r = z.r
        · have hpn : z.p ≠ x.p := fun q => hne (by
            obtain ⟨xr, xp⟩ := x; obtain ⟨zr, zp⟩ := z
            simp only at e q; rw [e, q])
          exact mea_lt (mu_lt hp hpn) (by omega)
        · have h2 : imp x.r z.r = true := hr.resolve_left e
          have h3 := (hρ _ _ h2).resolve_left e
          have h4 := hN z.r
          by_cases q : z.p = x.p
          · rw [q]; omega
          · exact mea_lt (mu_lt hp q) (by omega)
      obtain ⟨y, hy, h5, h6, h7⟩ := ih _ (by omega) z (Nat.le_refl _) hz
      refine ⟨y, hy, h5, ?_, implies_trans h7 hp⟩
      rcases hr with e | h2
      · rw [e]; exact h6
      · rcases h6 with e | h6
        · rw [← e]; exact .inr h2
        · exact .inr (hi.tr _ _ _ h2 h6)
theorem ni_takeE {l : List Ent} (hn : l.Nodup) {j : Nat} (h : j < l.length) : l.getD j ez ∉ l.take j := by
  intro hm
  have h2 : (l.take (j + 1)).Nodup := hn.sublist (List.take_sublist _ _)
  rw [takeE h, List.nodup_append] at h2
  exact h2.2.2 _ hm _ (by simp) rfl
def lessL (m l : List Ent) : List Ent := m.filter fun x => !(l.any fun y => y == x)
theorem lessL_nil (m : List Ent) : lessL m [] = m := by unfold lessL; simp
theorem lessL_snoc (m l : List Ent) (e : Ent) : (lessL m l).filter (· != e) = lessL m (l ++ [e]) := by
  unfold lessL
  rw [List.filter_filter]
  refine List.filter_congr fun x _ => ?_
  rw [List.any_append]
  simp only [List.any_cons, List.any_nil, Bool.or_false, Bool.not_or, bne]
  rw [Bool.and_comm]
  congr 1
  rw [Bool.eq_iff_iff]; simp; exact ⟨fun h q => h q.symm, fun h q => h q.symm⟩
theorem lessL_mem {m l : List Ent} {x : Ent} : x ∈ lessL m l ↔ x ∈ m ∧ x ∉ l := by
  unfold lessL
  rw [List.mem_filter]
  simp only [Bool.not_eq_true', List.any_eq_false, beq_iff_eq]
  constructor
  · rintro ⟨h1, h2⟩; exact ⟨h1, fun h => h2 x h rfl⟩
  · rintro ⟨h1, h2⟩; exact ⟨h1, fun y hy e => h2 (e ▸ hy)⟩
theorem OkG.less {m : List Ent} (h : OkG m) (l : List Ent) : OkG (lessL m l) := ⟨h.asc.filter _, fun x hx => h.ve x (List.mem_filter.1 hx).1, Nat.le_trans (List.length_filter_le _ _) h.len⟩
theorem red_nodup {imp : Int → Int → Bool} {m : List Ent} (h : OkG m) : (redL imp m m).Nodup := h.nodup.filter _
theorem less_drop {imp : Int → Int → Bool} {m : List Ent} (h : OkG m) {k : Nat} (hk : k < (redL imp m m).length) :
    dropR (lessL m ((redL imp m m).take k)) ((redL imp m m).getD k ez) = (lessL m ((redL imp m m).take (k + 1)), 0) := by
  have hin : (redL imp m m).getD k ez ∈ redL imp m m := gm hk
  have hm := (List.mem_filter.1 hin).1
  have hv := h.ve _ hm
  have hni : (redL imp m m).getD k ez ∉ (redL imp m m).take k := ni_takeE (red_nodup h) hk
  unfold dropR
  rw [if_neg (by have := hv.1; have := hv.2.1; omega), if_neg (fun q => q (lessL_mem.2 ⟨hm, hni⟩)), lessL_snoc, ← takeE hk]
theorem less_none {imp : Int → Int → Bool} {m : List Ent} : redL imp (lessL m (redL imp m m)) (lessL m (redL imp m m)) = [] := by
  unfold redL
  rw [List.filter_eq_nil_iff]
  intro x hx
  have h1 := lessL_mem.1 hx
  intro hc
  obtain ⟨y, hy, h2⟩ := List.any_eq_true.1 hc
  exact h1.2 (List.mem_filter.2 ⟨h1.1, List.any_eq_true.2 ⟨y, (lessL_mem.1 hy).1, h2⟩⟩)
theorem less_all {imp : Int → Int → Bool} (hi : ImpOk imp) {m : List Ent} (hm : OkG m) {s : W64} (hs : ∀ a b : Int, hasW s a = true → imp a b = true → hasW s b = true) :
    normS (allG m s) = normS (allG (lessL m (redL imp m m)) s) := by
  refine norm_same (allG_ok hm) (allG_ok (hm.less _)) fun q => ?_
  rw [Bool.eq_iff_iff, impL_iff, impL_iff]
  constructor
  · rintro ⟨p, hp, h1⟩
    obtain ⟨x, hx, rfl⟩ := List.mem_map.1 hp
    obtain ⟨hx1, hx2⟩ := List.mem_filter.1 hx
    obtain ⟨y, hy, h2, h3, h4⟩ := red_above hi hm hx1
    refine ⟨y.p, List.mem_map.2 ⟨y, List.mem_filter.2 ⟨lessL_mem.2 ⟨hy, fun h => ?_⟩, ?_⟩, rfl⟩, implies_trans h4 h1⟩
    · have := (List.mem_filter.1 h).2
      rw [h2] at this; cases this
    · rcases h3 with e | h3
      · rw [← e]; exact hx2
      · exact hs _ _ hx2 h3
  · rintro ⟨p, hp, h1⟩
    obtain ⟨x, hx, rfl⟩ := List.mem_map.1 hp
    obtain ⟨hx1, hx2⟩ := List.mem_filter.1 hx
    exact ⟨x.p, List.mem_map.2 ⟨x, List.mem_filter.2 ⟨(lessL_mem.1 hx1).1, hx2⟩, rfl⟩, h1⟩
end Go.Lx
/- Books of grants in memory; the law's operations. Nothing of a program stands here. -/
namespace Go.Lx
open Go Go.RowKit
set_option linter.unusedSimpArgs false
set_option linter.unusedVariables false
set_option linter.unnecessarySimpa false
def GbIs (w : World) (v : Value) (m : List Ent) : Prop := ∃ p a c, v = .pointer (some ⟨p, 0, none⟩) ∧ At w p 0 [.slice a m.length c] ∧ Sl encE 4 (Lt w.heap.size) w a c m
theorem GbIs.ext {γ : Prop} {w w' : World} {v : Value} {m : List Ent} (h : GbIs w v m) (x : Ext γ w w') : GbIs w' v m :=
  let ⟨p, a, c, h1, h2, h3⟩ := h
  ⟨p, a, c, h1, h2.keep x id, (h3.ext x).top⟩
def GbF (F : Nat → Prop) (w : World) (v : Value) (m : List Ent) : Prop := ∃ p a c, v = .pointer (some ⟨p, 0, none⟩) ∧ F p ∧ At w p 0 [.slice a m.length c] ∧ Sl encE 4 F w a c m
section
variable {F F' D : Nat → Prop} {γ : Prop} {w w' : World} {v : Value} {m : List Ent}
theorem GbF.keep (h : GbF F w v m) (x : Bel γ D w w') (hd : ∀ b, b < w.heap.size → F b → ¬ D b) : GbF F w' v m :=
  let ⟨p, a, c, h1, h2, h3, h4⟩ := h
  ⟨p, a, c, h1, h2, h3.keep x (hd p h3.lt h2), h4.keep x hd⟩
theorem GbF.ext (h : GbF F w v m) (x : Ext γ w w') : GbF F w' v m := h.keep x fun _ _ _ => id
theorem GbF.mono (h : GbF F w v m) (hd : ∀ b, b < w.heap.size → F b → F' b) : GbF F' w v m :=
  let ⟨p, a, c, h1, h2, h3, h4⟩ := h
  ⟨p, a, c, h1, hd p h3.lt h2, h3, h4.mono hd⟩
theorem GbF.is (h : GbF F w v m) : GbIs w v m :=
  let ⟨p, a, c, h1, _, h3, h4⟩ := h
  ⟨p, a, c, h1, h3, h4.top⟩
theorem GbIs.f (h : GbIs w v m) : GbF (Lt w.heap.size) w v m :=
  let ⟨p, a, c, h1, h3, h4⟩ := h
  ⟨p, a, c, h1, h3.lt, h3, h4⟩
end
def GbP (w : World) (p : Value) (e : Int) (m : List Ent) : Prop := (e = 0 → GbIs w p m) ∧ (e ≠ 0 → p = .pointer none)
theorem GbP.ext {γ : Prop} {w w' : World} {p : Value} {e : Int} {m : List Ent} (h : GbP w p e m) (x : Ext γ w w') : GbP w' p e m := ⟨fun he => (h.1 he).ext x, h.2⟩
def GbO (w : World) (p : Value) (m : List Ent) : Prop := GbIs w p m ∨ p = .pointer none ∧ m = []
theorem GbO.ext {γ : Prop} {w w' : World} {p : Value} {m : List Ent} (h : GbO w p m) (x : Ext γ w w') : GbO w' p m := h.imp (·.ext x) id
theorem gb_new {w : World} {p : Nat} {T : TypeId} {a : Option Addr} {c k : Nat} {m : List Ent} {D : Nat → Prop} {e : TypeId} (hb : Box w p T [.slice a k c]) (hk : k = m.length) (ho : Own encE 4 e D w (.slice a k c) m) : GbIs w (.pointer (some ⟨p, 0, none⟩)) m := by
  subst hk
  exact ⟨p, a, c, rfl, hb.at, (ho.slA encE_ok).top⟩
theorem gb_nil {w : World} {p : Nat} {T : TypeId} (hb : Box w p T [.slice none 0 0]) : GbIs w (.pointer (some ⟨p, 0, none⟩)) [] := ⟨p, none, 0, rfl, hb.at, Sl.none⟩
structure GOp where
  wd : Bool
  rl : UInt8
  p : RawV
def encGo (o : GOp) : List Value := .bool o.wd :: .int .u8 (o.rl.toNat : Int) :: encR o.p
def goz : GOp := ⟨false, 0, rz⟩
def roleL : List Int := [0, 63, 64, -1, 65, 62]
def roleN (n : UInt8) : Int := if 250 ≤ n.toNat then roleL.getD (n.toNat - 250) 0 else 1 + ((n.toNat % 6 : Nat) : Int)
def GOp.ent (o : GOp) : Ent := ⟨roleN o.rl, o.p.perm⟩
theorem GOp.okp (o : GOp) : o.ent.p.ok := o.p.ok
def stepGr (m : List Ent) (o : GOp) : List Ent × Int := if o.wd then dropR m o.ent else grantR m o.ent
theorem OkG.step {m : List Ent} (h : OkG m) (o : GOp) : OkG (stepGr m o).1 := by
  unfold stepGr
  split
  · exact h.drop _
  · exact h.grant o.okp
theorem half_natE {n : Nat} (h : n < 18446744073709551616) : (BitVec.ofNat 64 n >>> 1).toNat = n / 2 := by
  rw [BitVec.toNat_ushiftRight, BitVec.toNat_ofNat, Nat.mod_eq_of_lt (by omega), Nat.shiftRight_eq_div_pow]
theorem beq_swE (a b : Ent) : (a == b) = (b == a) := by
  rw [Bool.eq_iff_iff, beq_iff_eq, beq_iff_eq]; exact ⟨Eq.symm, Eq.symm⟩
theorem lessE_ne {a b : Ent} (h : (a.r != b.r) = true) : decide (a.r < b.r) = lessE a b := by
  have h1 : a.r ≠ b.r := by simpa using h
  rw [lessE, cmpE, if_pos h]
  unfold cmpI
  rw [Bool.eq_iff_iff, decide_eq_true_iff, decide_eq_true_iff]
  (repeat' split) <;> omega
theorem lessE_eq {a b : Ent} (h : (a.r != b.r) = false) : decide (cmpM a.p b.p < 0) = lessE a b := by
  rw [lessE, cmpE, if_neg (by rw [h]; simp)]
end Go.Lx
/- Which role implies which. Nothing of a program stands here. -/
namespace Go.Lx
open Go
set_option linter.unusedSimpArgs false
set_option linter.unusedVariables false
set_option linter.unnecessarySimpa false
def ImpP (L : List Pr) (r s : Int) : Prop := ∃ a b : Fin 64, r = iv a ∧ s = iv b ∧ 1 ≤ a.val ∧ 1 ≤ b.val ∧ (b = a ∨ Rch L a b)
noncomputable def impLk (L : List Pr) (r s : Int) : Bool := @decide (ImpP L r s) (Classical.propDecidable _)
theorem impLk_iff {L : List Pr} {r s : Int} : impLk L r s = true ↔ ImpP L r s := by
  unfold impLk
  exact @decide_eq_true_iff _ (Classical.propDecidable _)
@[irreducible] def aboO (o : OV) (a : Int) : W64 := if 0 ≤ a ∧ a < (o.n : Int) then (o.above.getD a.toNat sz).x else 0
theorem imp_prog {o : OV} {L : List Pr} (h : HOk o L) (r s : Int) : (decide (1 ≤ r) && decide (r ≤ 63) && (decide (1 ≤ s) && decide (s ≤ 63)) && (r == s || hasW (aboO o s) r)) = impLk L r s := by
  rw [Bool.eq_iff_iff, impLk_iff]
  simp only [Bool.and_eq_true, Bool.or_eq_true, decide_eq_true_iff, beq_iff_eq]
  constructor
  · rintro ⟨⟨⟨h1, h2⟩, h3, h4⟩, h5⟩
    obtain ⟨a, ha⟩ : ∃ a : Fin 64, r = iv a := ⟨⟨r.toNat, by omega⟩, by unfold iv; simp; omega⟩
    obtain ⟨b, hb⟩ : ∃ a : Fin 64, s = iv a := ⟨⟨s.toNat, by omega⟩, by unfold iv; simp; omega⟩
    refine ⟨a, b, ha, hb, by unfold iv at ha; omega, by unfold iv at hb; omega, ?_⟩
    rcases h5 with h5 | h5
    · exact .inl (iv_inj.1 (by rw [← ha, ← hb, h5]))
    · refine .inr ((h.ab b a).1 ?_)
      rw [ha, hb] at h5
      unfold iv at h5
      rw [hasW_nat] at h5
      unfold aboO at h5
      rw [if_pos ⟨by omega, by have := b.isLt; rw [h.n]; omega⟩, Int.toNat_natCast] at h5
      exact h5
  · rintro ⟨a, b, rfl, rfl, h1, h2, h3⟩
    have h4 := iv_ge a
    have h5 := iv_ge b
    refine ⟨⟨⟨by unfold iv; omega, by omega⟩, by unfold iv; omega, by omega⟩, ?_⟩
    rcases h3 with rfl | h3
    · exact .inl rfl
    · refine .inr ?_
      have h6 := (h.ab b a).2 h3
      unfold iv
      rw [hasW_nat]
      unfold aboO
      rw [if_pos ⟨by omega, by have := b.isLt; rw [h.n]; omega⟩, Int.toNat_natCast]
      exact h6
theorem imp_ref {L : List Pr} {a b : Fin 64} {J : W64} (hJ : JunIs L a J) (h1 : 1 ≤ a.val) (h2 : 1 ≤ b.val) : J.getLsbD b.val = impLk L (iv a) (iv b) := by
  rw [Bool.eq_iff_iff, impLk_iff, hJ b]
  constructor
  · intro h; exact ⟨a, b, rfl, rfl, h1, h2, h⟩
  · rintro ⟨a', b', e1, e2, _, _, h⟩
    rw [iv_inj.1 e1, iv_inj.1 e2]; exact h
theorem rch_nil {a b : Fin 64} : ¬ Rch [] a b := by
  intro h
  have := (rch_last.1 h)
  obtain ⟨c, hc, _⟩ := this
  simp at hc
theorem imp_nil {r s : Int} (h : r ≠ s) : impLk [] r s = false := by
  rw [Bool.eq_false_iff]
  intro h1
  obtain ⟨a, b, rfl, rfl, _, _, h2⟩ := impLk_iff.1 h1
  rcases h2 with rfl | h2
  · exact h rfl
  · exact rch_nil h2
theorem red_nil {m : List Ent} : redL (impLk []) m m = redL (fun _ _ => false) m m := redL_congr fun _ _ _ _ h => imp_nil h
theorem mem_le_sum : ∀ {l : List Nat} {a : Nat}, a ∈ l → a ≤ l.sum
  | x :: l, a, h => by
    rw [List.sum_cons]
    rcases List.mem_cons.1 h with rfl | h
    · omega
    · have := mem_le_sum h; omega
theorem ImpOk.ofL {L : List Pr} {ρ : Fin 64 → Nat} (h : LkOk L ρ) : ImpOk (impLk L) := by
  refine ⟨fun a b c h1 h2 => ?_, ?_⟩
  · obtain ⟨x, y, rfl, rfl, p1, p2, h3⟩ := impLk_iff.1 h1
    obtain ⟨y', z, e, rfl, p3, p4, h4⟩ := impLk_iff.1 h2
    obtain rfl := iv_inj.1 e
    refine impLk_iff.2 ⟨x, z, rfl, rfl, p1, p4, ?_⟩
    rcases h3 with rfl | h3
    · exact h4
    · rcases h4 with rfl | h4
      · exact .inr h3
      · exact .inr (rch_trans h3 h4)
  · refine ⟨fun a => if h : 0 ≤ a ∧ a < 64 then ρ ⟨a.toNat, by omega⟩ else 0, ((List.finRange 64).map ρ).sum, fun a => ?_, fun a b h1 => ?_⟩
    · dsimp only
      split
      · exact mem_le_sum (List.mem_map.2 ⟨_, List.mem_finRange _, rfl⟩)
      · exact Nat.zero_le _
    · obtain ⟨x, y, rfl, rfl, p1, p2, h3⟩ := impLk_iff.1 h1
      rcases h3 with rfl | h3
      · exact .inl rfl
      · right
        have hx := iv_ge x
        have hy := iv_ge y
        dsimp only
        rw [dif_pos hx, dif_pos hy]
        have e1 : (⟨(iv x).toNat, by omega⟩ : Fin 64) = x := Fin.ext (by unfold iv; simp)
        have e2 : (⟨(iv y).toNat, by omega⟩ : Fin 64) = y := Fin.ext (by unfold iv; simp)
        rw [e1, e2]
        exact rch_rank h.rk h3
theorem clos_closed {o : OV} {L : List Pr} (h : HOk o L) (x : W64) (a b : Int) (h1 : hasW (closW o x) a = true) (h2 : impLk L a b = true) : hasW (closW o x) b = true := by
  obtain ⟨c, d, rfl, rfl, p1, p2, h3⟩ := impLk_iff.1 h2
  unfold iv at h1 ⊢
  rw [hasW_nat] at h1 ⊢
  obtain ⟨r, q1, q2, q3, q4⟩ := (h.clos x c).1 h1
  refine (h.clos x d).2 ⟨r, q1, q2, q3, ?_⟩
  rcases h3 with rfl | h3
  · exact q4
  · rcases q4 with rfl | q4
    · exact .inr h3
    · exact .inr (rch_trans q4 h3)
def HyO (F : Nat → Prop) (w : World) (v : Value) (imp : Int → Int → Bool) : Prop := (∃ L ph po o, v = .pointer (some ⟨ph, 0, none⟩) ∧ F ph ∧ At w ph 0 [.pointer (some ⟨po, 0, none⟩)] ∧ OdAt F w po o ∧ HOk o L ∧ imp = impLk L) ∨ v = .pointer none ∧ imp = fun _ _ => false
section
variable {F F' D : Nat → Prop} {γ : Prop} {w w' : World} {v : Value} {imp : Int → Int → Bool}
theorem HyO.keep (h : HyO F w v imp) (x : Bel γ D w w') (hd : ∀ b, b < w.heap.size → F b → ¬ D b) : HyO F w' v imp :=
  h.imp (fun ⟨L, ph, po, o, h1, h2, h3, h4, h5⟩ => ⟨L, ph, po, o, h1, h2, h3.keep x (hd ph h3.lt h2), h4.keep x hd, h5⟩) id
theorem HyO.ext (h : HyO F w v imp) (x : Ext γ w w') : HyO F w' v imp := h.keep x fun _ _ _ => id
theorem HyO.mono (h : HyO F w v imp) (hd : ∀ b, b < w.heap.size → F b → F' b) : HyO F' w v imp :=
  h.imp (fun ⟨L, ph, po, o, h1, h2, h3, h4, h5⟩ => ⟨L, ph, po, o, h1, hd ph h3.lt h2, h3, h4.mono hd, h5⟩) id
theorem HyIs.hyO {L : List Pr} (h : HyIs w v L) : HyO (Lt w.heap.size) w v (impLk L) :=
  let ⟨ph, po, o, h1, h2, h3, h4⟩ := h
  .inl ⟨L, ph, po, o, h1, h2.lt, h2, h3, h4, rfl⟩
theorem HyO.none : HyO (fun _ => False) w (.pointer none) (fun _ _ => false) := .inr ⟨rfl, rfl⟩
end
end Go.Lx
/- What the statements about grants need. Nothing of a program stands here. -/
namespace Go.Lx
open Go
set_option linter.unusedSimpArgs false
set_option linter.unusedVariables false
set_option linter.unnecessarySimpa false
def AE1 : Ent := ⟨1, ⟨[114, 101, 97, 100], [47, 97], true⟩⟩
def AE2 : Ent := ⟨2, ⟨[114, 101, 97, 100], [47, 97, 47, 98], false⟩⟩
def AM1 : List Ent := [AE1]
def AM2 : List Ent := [AE1, AE2]
theorem AE1_ok : AE1.p.ok := ⟨by decide, by decide⟩
theorem AE2_ok : AE2.p.ok := ⟨by decide, by decide⟩
theorem aw_g1 : grantR [] AE1 = (AM1, 0) := by decide +kernel
theorem aw_g2 : grantR AM1 AE2 = (AM2, 0) := by decide +kernel
theorem okAM1 : OkG AM1 := by
  have h := OkG.grant OkG.nil (e := AE1) AE1_ok
  rwa [aw_g1] at h
theorem okAM2 : OkG AM2 := by
  have h := OkG.grant okAM1 (e := AE2) AE2_ok
  rwa [aw_g2] at h
theorem aw_cov1 : covW AM2 [114, 101, 97, 100] [47, 97, 47, 98] = ofW [1, 2] := by decide +kernel
theorem aw_cov2 : covW AM2 [114, 101, 97, 100] [47, 97, 47, 99] = ofW [1] := by decide +kernel
theorem aw_red (imp : Int → Int → Bool) : redL imp AM2 AM2 = if imp 2 1 then [AE2] else [] := by
  have n1 : AM2.any (needB imp AE1) = false := by
    have a1 : needB imp AE1 AE1 = false := by unfold needB; rw [show (AE1 == AE1) = true by decide]; rfl
    have a2 : needB imp AE1 AE2 = false := by unfold needB; rw [show impliesS AE2.p AE1.p = false by decide +kernel, Bool.and_false]
    show (needB imp AE1 AE1 || (needB imp AE1 AE2 || false)) = false
    rw [a1, a2]; rfl
  have n2 : AM2.any (needB imp AE2) = imp 2 1 := by
    have b1 : needB imp AE2 AE1 = imp 2 1 := by
      unfold needB
      rw [show (AE2 == AE1) = false by decide, show (AE2.r == AE1.r) = false by decide, show impliesS AE1.p AE2.p = true by decide +kernel]
      show (true && (false || imp 2 1) && true) = imp 2 1
      simp
    have b2 : needB imp AE2 AE2 = false := by unfold needB; rw [show (AE2 == AE2) = true by decide]; rfl
    show (needB imp AE2 AE1 || (needB imp AE2 AE2 || false)) = _
    rw [b1, b2]; simp
  show ([AE1, AE2].filter fun x => AM2.any (needB imp x)) = _
  rw [List.filter_cons, List.filter_cons, n1, n2]
  simp
theorem aw_red1 : redL (impLk [((2 : Fin 64), (1 : Fin 64))]) AM2 AM2 = [AE2] := by
  have h1 : impLk [((2 : Fin 64), (1 : Fin 64))] 2 1 = true := impLk_iff.2 ⟨2, 1, rfl, rfl, by decide, by decide, .inr ((rch_single (by decide)).2 ⟨rfl, rfl⟩)⟩
  rw [aw_red, if_pos h1]
theorem aw_red2 : redL (impLk [((1 : Fin 64), (2 : Fin 64))]) AM2 AM2 = [] := by
  have h1 : impLk [((1 : Fin 64), (2 : Fin 64))] 2 1 = false := by
    rw [Bool.eq_false_iff]
    intro h
    obtain ⟨a, b, e1, e2, _, _, h3⟩ := impLk_iff.1 h
    have ha : a = 2 := iv_inj.1 e1.symm
    have hb : b = 1 := iv_inj.1 e2.symm
    subst ha; subst hb
    rcases h3 with h3 | h3
    · exact absurd h3 (by decide)
    · exact absurd ((rch_single (by decide)).1 h3).1 (by decide)
  rw [aw_red, h1]; rfl
theorem covW_aux (a q : Str) (i : Nat) (hi : i < 64) : ∀ (l : List Ent) (w : W64), (∀ e ∈ l, 1 ≤ e.r ∧ e.r ≤ 63) →
    ((l.foldl (fun w e => if coversS e.p a q then w ||| oneW e.r.toNat else w) w).getLsbD i = true ↔ w.getLsbD i = true ∨ ∃ e ∈ l, coversS e.p a q = true ∧ e.r = (i : Int))
  | [], w, _ => by simp
  | e :: l, w, h => by
    have he := h e (by simp)
    rw [List.foldl_cons, covW_aux a q i hi l _ (fun x hx => h x (by simp [hx]))]
    constructor
    · rintro (h1 | ⟨x, hx, h1, h2⟩)
      · split at h1
        · rename_i hc
          rw [BitVec.getLsbD_or, Bool.or_eq_true, oneW_get _ _ (show e.r.toNat < 64 by omega), decide_eq_true_eq] at h1
          rcases h1 with h1 | h1
          · exact .inl h1
          · exact .inr ⟨e, by simp, hc, by omega⟩
        · exact .inl h1
      · exact .inr ⟨x, by simp [hx], h1, h2⟩
    · rintro (h1 | ⟨x, hx, h1, h2⟩)
      · left
        split
        · rw [BitVec.getLsbD_or, h1]; rfl
        · exact h1
      · rcases List.mem_cons.1 hx with rfl | hx
        · left
          rw [if_pos h1, BitVec.getLsbD_or, Bool.or_eq_true, oneW_get _ _ (show x.r.toNat < 64 by omega), decide_eq_true_eq]
          right; omega
        · exact .inr ⟨x, hx, h1, h2⟩
theorem w64_ne {x : W64} : (x != 0) = true ↔ ∃ i, i < 64 ∧ x.getLsbD i = true := by
  rw [bne_iff_ne]
  constructor
  · intro h
    exact Classical.byContradiction fun hn => h (BitVec.eq_of_getLsbD_eq fun i hi => by
      cases hb : x.getLsbD i with
      | false => simp
      | true => exact absurd ⟨i, hi, hb⟩ hn)
  · rintro ⟨i, _, h⟩ rfl
    simp at h
theorem cov_all {m : List Ent} (hm : OkG m) (s : W64) (a q : Str) : ((normS (allG m s)).any fun p => coversS p a q) = ((covW m a q &&& s) != 0) := by
  have h0 : ((normS (allG m s)).any fun p => coversS p a q) = covL (allG m s) a q := norm_cov _ _ _
  rw [h0, Bool.eq_iff_iff, covL_iff, w64_ne]
  constructor
  · rintro ⟨p, hp, h1⟩
    obtain ⟨e, he, rfl⟩ := List.mem_map.1 hp
    obtain ⟨h2, h3⟩ := List.mem_filter.1 he
    have hv := hm.ve e h2
    obtain ⟨n, hn⟩ : ∃ n : Nat, e.r = n := ⟨e.r.toNat, by have := hv.1; omega⟩
    have hl : n < 64 := by have := hv.2.1; omega
    refine ⟨n, hl, ?_⟩
    rw [BitVec.getLsbD_and, Bool.and_eq_true]
    rw [hn, hasW_nat] at h3
    exact ⟨(covW_aux a q n hl m 0 (fun x hx => ⟨(hm.ve x hx).1, (hm.ve x hx).2.1⟩)).2 (.inr ⟨e, h2, h1, hn⟩), h3⟩
  · rintro ⟨i, hi, h⟩
    rw [BitVec.getLsbD_and, Bool.and_eq_true] at h
    rcases (covW_aux a q i hi m 0 (fun x hx => ⟨(hm.ve x hx).1, (hm.ve x hx).2.1⟩)).1 h.1 with h1 | ⟨e, h1, h2, h3⟩
    · simp at h1
    · refine ⟨e.p, List.mem_map.2 ⟨e, List.mem_filter.2 ⟨h1, ?_⟩, rfl⟩, h2⟩
      rw [h3, hasW_nat]; exact h.2
theorem anyP_succ {f : Perm → Bool} {l : List Perm} {j : Nat} (h : j < l.length) : (l.take (j + 1)).any f = ((l.take j).any f || f (l.getD j pz)) := by
  rw [List.take_succ_eq_append_getElem h, List.any_append]; simp [List.getD, h]
theorem allG_len2 {m : List Ent} (h : OkG m) (s : W64) : (normS (allG m s)).length ≤ 1000 := by
  have h1 := normS_len (allG m s)
  have h2 := allG_len m s
  have h3 := h.len
  omega
end Go.Lx
/- What the walks ask of this program's types of grants. -/
namespace Go.Proofs.YtndlnfdaeipifaaGreatDoor
open Go Go.Lx
set_option linter.unusedSimpArgs false
set_option linter.unusedVariables false
set_option linter.unnecessarySimpa false
set_option maxRecDepth 10000
theorem eqF_consA {P : Program} {d k : Nat} {xs ys a b : Array Value} {f : Field} {fs : List Field} {r r' : Bool} (hn : f.name ≠ "_") (ha : ∀ w, (isAgg f.type).run P w = .ok true w) (hs : ∀ w, (sizeOf f.type).run P w = .ok k w) (hx : xs.extract f.offset (f.offset + k) = a) (hy : ys.extract f.offset (f.offset + k) = b)
    (he : ∀ w, (Op.equalIn d f.type (.agg a) (.agg b)).run P w = .ok r w) (hr : ∀ w, (Op.eqFields d xs ys fs).run P w = .ok r' w) : ∀ w, (Op.eqFields d xs ys (f :: fs)).run P w = .ok (r && r') w := by
  intro w
  simp only [Op.eqFields, hn, ne_eq, not_false_eq_true, if_true, Sem.run_bind, part, ha, hs, Result.andThen_ok, hx, hy, Sem.run_pure, he]
  cases r
  · simp
  · simp [hr]
theorem eqI_int (d : Nat) (x y : Int) : ∀ w, (Op.equalIn (d + 1) 3 (.int .i64 x) (.int .i64 y)).run Tryz.prog w = .ok (x == y) w := by
  intro w
  simp [Op.equalIn, run_underlying Tryz.underlying3]
theorem entBeq (x y : Ent) : (x == y) = ((x.r == y.r) && (x.p == y.p)) := by
  obtain ⟨a, b⟩ := x
  obtain ⟨a', b'⟩ := y
  rw [Bool.eq_iff_iff]
  simp only [Bool.and_eq_true, beq_iff_eq, Ent.mk.injEq]
theorem eq_permD (x y : Perm) : ∀ w, (Op.equalIn 9999 52 (.agg (encP x).toArray) (.agg (encP y).toArray)).run Tryz.prog w = .ok (x == y) w := fun w => by
  rw [run_equalIn_struct w 9998 _ _ _ (by kernel_rfl) (by kernel_rfl), permBeq, Bool.and_assoc, Program.fieldsOf, Tryz.underlying52]
  have h3 : ((x.deep == y.deep) : Bool) = ((x.deep == y.deep) && true) := (Bool.and_true _).symm
  rw [h3]
  exact eqF_cons (by simp) Tryz.isAgg9 rfl rfl (eqI_str _ _ Tryz.underlying9) (eqF_cons (by simp) Tryz.isAgg9 rfl rfl (eqI_str _ _ Tryz.underlying9) (eqF_cons (by simp) Tryz.isAgg4 rfl rfl (fun w => run_equalIn_bool' w _ _ _ _ Tryz.underlying4) eqF_nil)) w
theorem eq_ent : EqT Tryz.prog 76 encE := ⟨by kernel_rfl, fun w x y => by
  rw [run_equalIn_struct w 9999 _ _ _ (by kernel_rfl) (by kernel_rfl), entBeq, Program.fieldsOf, Tryz.underlying76]
  have h3 : ((x.p == y.p) : Bool) = ((x.p == y.p) && true) := (Bool.and_true _).symm
  rw [h3]
  exact eqF_cons (by simp) Tryz.isAgg3 rfl rfl (eqI_int _ _ _) (eqF_consA (by simp) Tryz.isAgg52 Tryz.sizeOf52 rfl rfl (eq_permD x.p y.p) eqF_nil) w⟩
theorem eq_rpermD (x y : Perm) : ∀ w, (Op.equalIn 9999 41 (.agg (encP x).toArray) (.agg (encP y).toArray)).run Tryz.prog w = .ok (x == y) w := fun w => by
  rw [run_equalIn_struct w 9998 _ _ _ (by kernel_rfl) (by kernel_rfl), permBeq, Bool.and_assoc, Program.fieldsOf, Tryz.underlying41]
  have h3 : ((x.deep == y.deep) : Bool) = ((x.deep == y.deep) && true) := (Bool.and_true _).symm
  rw [h3]
  exact eqF_cons (by simp) Tryz.isAgg9 rfl rfl (eqI_str _ _ Tryz.underlying9) (eqF_cons (by simp) Tryz.isAgg9 rfl rfl (eqI_str _ _ Tryz.underlying9) (eqF_cons (by simp) Tryz.isAgg4 rfl rfl (fun w => run_equalIn_bool' w _ _ _ _ Tryz.underlying4) eqF_nil)) w
theorem eq_rent : EqT Tryz.prog 43 encE := ⟨by kernel_rfl, fun w x y => by
  rw [run_equalIn_struct w 9999 _ _ _ (by kernel_rfl) (by kernel_rfl), entBeq, Program.fieldsOf, Tryz.underlying43]
  have h3 : ((x.p == y.p) : Bool) = ((x.p == y.p) && true) := (Bool.and_true _).symm
  rw [h3]
  exact eqF_cons (by simp) Tryz.isAgg3 rfl rfl (eqI_int _ _ _) (eqF_consA (by simp) Tryz.isAgg41 Tryz.sizeOf41 rfl rfl (eq_rpermD x.p y.p) eqF_nil) w⟩
theorem el_ent : ElT Tryz.prog 34 76 4 48 (.agg #[.int .i64 0, .string ⟨#[]⟩, .string ⟨#[]⟩, .bool false]) := ⟨Tryz.underlying34, ⟨Tryz.t76, by kernel_rfl, rfl, rfl, rfl⟩, rfl, by decide, by decide⟩
theorem el_rent : ElT Tryz.prog 26 43 4 48 (.agg #[.int .i64 0, .string ⟨#[]⟩, .string ⟨#[]⟩, .bool false]) := ⟨Tryz.underlying26, ⟨Tryz.t43, by kernel_rfl, rfl, rfl, rfl⟩, rfl, by decide, by decide⟩
end Go.Proofs.YtndlnfdaeipifaaGreatDoor
