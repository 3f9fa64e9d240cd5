/- Walks: what functions return. -/
import Derived.Test.YtdnkjdmfnmdpdaaGreatDoorWsrc
import Derived.Test.YtdnkjdmfnmdpdaaGreatDoorWref13
import Derived.Test.YtdnkjdmfnmdpdaaGreatDoorWref22
import Derived.Test.YtdnkjdmfnmdpdaaGreatDoorWref10
import Derived.Test.YtdnkjdmfnmdpdaaGreatDoorOwn3
set_option linter.unusedVariables false
set_option linter.unusedSimpArgs false
set_option linter.unnecessarySimpa false
namespace Go.Proofs.YtdnkjdmfnmdpdaaGreatDoor
open Go Go.Lx Go.RowKit Tryz
set_option maxRecDepth 100000
theorem names24_ok (c : Str) (n : Nat) (hc : c.length ≤ 10) (hn : n ≤ 9) (w : World) : Ok Tryz.prog 39 #[str c, .int .i64 (n : Int)] w fun v w' => (∃ l : List Str, Own encS 1 9 (Fsh w w') w' v l ∧ l.length = n) ∧ Ext False w w' := by
 refine ZQ 24 func39 rfl rfl rfl ?_
 have hX := xRf w
 refine QH (Qc ?_)
 refine Rr Zi ?_
 refine Qg (QH (Qc ?_))
 refine Rr Zi ?_
 refine Qg (QH (QH (Qc ?_)))
 refine Rr Zi ?_
 refine Qg (ZM ?_)
 refine Jk (α := Nat × Value × List Str) [(5, 22)] (fun q => [(6, .int .i64 (q.1 : Int)), (5, q.2.1)]) (fun q w' => (1 ≤ q.1 ∧ q.1 ≤ n + 1 ∧ q.2.2.length + 1 = q.1) ∧ Bel False (fun g => w.heap.size ≤ g) w w' ∧ (Own encS 1 9 (fun g => w.heap.size ≤ g) w' q.2.1 q.2.2)) (fun q => n + 1 - q.1) (1, .slice none 0 0, []) ⟨rfl, rfl, trivial⟩ ⟨⟨Nat.le_refl _, by show 1 ≤ n + 1; omega, rfl⟩, Bel.refl _ _, Own.nil _ _⟩ ?_
 rintro ⟨k, t, l⟩ fb3 w2 ⟨⟨hk1, hk, hl⟩, hXL1, hown⟩
 dsimp only at *
 have z4 := Bel.size hXL1
 replace hX := Bel.out hX hXL1 om2
 refine QH (QH (Qc ?_))
 refine Rr (mvI rfl) ?_
 refine Rr (mvI rfl) ?_
 refine Rr (o_leq rfl rfl) ?_
 refine Qg ?_
 refine ZG rfl (fun hc1 => ?_) (fun hc1 => ?_)
 ·replace hc1 : k ≤ n := by have := dcT hc1; omega
  refine ZH (QH (ZM (Qc ?_)))
  refine Rr (Zt (v := t) rfl) ?_
  refine Rr (Zt (v := str _) rfl) ?_
  refine Rr (mvI rfl) ?_
  refine Rr (Jp (a := k) (b := 10) rfl rfl (by decide) (by omega)) ?_
  refine Rr (mvI rfl) ?_
  refine Rr (Jp (a := k) (b := 10) rfl rfl (by decide) (by omega)) ?_
  refine Rr (Jr (p := k % 10) (b := 1) rfl rfl (by omega)) ?_
  refine Rr (o_sslice underlying9 rfl rfl rfl omg omg) ?_
  refine Rr (Z3 rfl rfl (by simp; omega)) ?_
  refine Jh (vs := [str _]) ([(c ++ ((([48, 49, 50, 51, 52, 53, 54, 55, 56, 57] : List UInt8).take (k % 10 + 1)).drop (k % 10)))]) rfl Jy Yb rfl rfl ⟨rfl, trivial⟩ rfl rfl rfl rfl ?_
  intro a21 w5 x6 hown21
  have z7 := x6.size
  replace hX := hX.ex x6
  replace hXL1 := Bel.ex hXL1 x6
  replace hown := hown.ext x6
  replace hown21 := hown21.mono (D' := fun g => w.heap.size ≤ g) (fun g h1 h2 => by omega)
  refine Jd rfl Jy Yb rfl rfl hown (hown21.slA Jy) rfl (by simp; omega) omU ?_
  intro v22 w8 x9 hown
  have z10 := x9.size
  replace hX := Bel.out hX x9 om2
  replace hXL1 := Bel.out hXL1 x9 om2
  refine Rr (ZD (v := v22) rfl) ?_
  refine Qg (Qc ?_)
  refine Rr (mvI rfl) ?_
  refine Rr (Z1 rfl rfl omg) ?_
  refine Rr (asI rfl) ?_
  refine Qg ?_
  refine ⟨(k + 1, v22, l ++ [(c ++ ((([48, 49, 50, 51, 52, 53, 54, 55, 56, 57] : List UInt8).take (k % 10 + 1)).drop (k % 10)))]), ⟨sT, sT, trivial⟩, oT, ⟨?_, hXL1, ?_⟩, ?_⟩
  ·exact ⟨by show 1 ≤ k + 1; omega, by show k + 1 ≤ n + 1; omega, by simp; omega⟩
  ·exact hown
  ·show n + 1 - (k + 1) < n + 1 - k; omega
 replace hc1 : n < k := by have := dcF hc1; omega
 refine Z4 (ZX (QH (Qc ?_)))
 refine Rr (Zt (v := t) rfl) ?_
 refine Rr (ZD (v := t) rfl) ?_
 refine Qg (ZJ ?_)
 refine ⟨_, ZF rfl rfl, ?_⟩
 exact ⟨⟨l, hown.mono (fun g h1 h2 => by omega), by omega⟩, hX⟩

theorem act24_ok (w : World) (n : UInt8) : Ok Tryz.prog 88 #[.int .u8 (n.toNat : Int)] w fun v w' => v = str (([[114, 101, 97, 100], [119, 114, 105, 116, 101], [114, 117, 110]] : List Str).getD (n.toNat % 3) []) ∧ Ext False w w' := by
 refine ZQ 8 func88 rfl rfl rfl ?_
 have hX := xRf w
 refine QH (Qc ?_)
 refine Rr Zi ?_
 refine Qg (QH (Qc ?_))
 refine Jh (vs := [str _, str _, str _]) (([[114, 101, 97, 100], [119, 114, 105, 116, 101], [114, 117, 110]] : List Str)) rfl Jy Yb rfl rfl ⟨rfl, ⟨rfl, ⟨rfl, trivial⟩⟩⟩ rfl rfl rfl rfl ?_
 intro a3 w1 x2 hown3
 replace hX := hX.ex x2
 refine Rr (mvI rfl) ?_
 refine Rr (o_remU (a := n.toNat) (b := 3) rfl rfl (by decide)) ?_
 refine Rr (o_iaO (i := n.toNat % 3) underlying29 sizeOf9 hown3 rfl rfl (by show _ < 3; omega)) ?_
 refine Rr (Yf isAgg9 (hown3.slA Jy) rfl rfl (Jw [] (by show _ < 3; omega)) rfl) ?_
 refine Rr (ZD (v := str _) rfl) ?_
 refine Qg (ZJ ?_)
 refine ⟨_, ZF rfl rfl, ?_⟩
 refine ⟨congrArg str ?_, hX⟩
 all_goals (rfl)

theorem path24_ok (w : World) (n : UInt8) : Ok Tryz.prog 89 #[.int .u8 (n.toNat : Int)] w fun v w' => v = str (([[47], [47, 97], [47, 97, 47, 98], [47, 97, 47, 98, 47, 99], [47, 100], [47, 100, 47, 101], [47, 97, 47, 120], [47, 102]] : List Str).getD (n.toNat % 8) []) ∧ Ext False w w' := by
 refine ZQ 8 func89 rfl rfl rfl ?_
 have hX := xRf w
 refine QH (Qc ?_)
 refine Rr Zi ?_
 refine Qg (QH (Qc ?_))
 refine Jh (vs := [str _, str _, str _, str _, str _, str _, str _, str _]) (([[47], [47, 97], [47, 97, 47, 98], [47, 97, 47, 98, 47, 99], [47, 100], [47, 100, 47, 101], [47, 97, 47, 120], [47, 102]] : List Str)) rfl Jy Yb rfl rfl ⟨rfl, ⟨rfl, ⟨rfl, ⟨rfl, ⟨rfl, ⟨rfl, ⟨rfl, ⟨rfl, trivial⟩⟩⟩⟩⟩⟩⟩⟩ rfl rfl rfl rfl ?_
 intro a3 w1 x2 hown3
 replace hX := hX.ex x2
 refine Rr (mvI rfl) ?_
 refine Rr (o_remU (a := n.toNat) (b := 8) rfl rfl (by decide)) ?_
 refine Rr (o_iaO (i := n.toNat % 8) underlying29 sizeOf9 hown3 rfl rfl (by show _ < 8; omega)) ?_
 refine Rr (Yf isAgg9 (hown3.slA Jy) rfl rfl (Jw [] (by show _ < 8; omega)) rfl) ?_
 refine Rr (ZD (v := str _) rfl) ?_
 refine Qg (ZJ ?_)
 refine ⟨_, ZF rfl rfl, ?_⟩
 refine ⟨congrArg str ?_, hX⟩
 all_goals (rfl)

def act24 (n : Nat) : Str := ([[114, 101, 97, 100], [119, 114, 105, 116, 101], [114, 117, 110]] : List Str).getD (n % 3) []
def path24 (n : Nat) : Str := ([[47], [47, 97], [47, 97, 47, 98], [47, 97, 47, 98, 47, 99], [47, 100], [47, 100, 47, 101], [47, 97, 47, 120], [47, 102]] : List Str).getD (n % 8) []
def perm24 (n : UInt8) : Perm := ⟨act24 (n.toNat / 8 % 3), path24 n.toNat, decide (n.toNat / 24 % 2 = 1)⟩
theorem act24V_ok (m : Nat) (hm : m < 256) (w : World) : Ok Tryz.prog 88 #[.int .u8 (m : Int)] w fun v w' => v = str (act24 m) ∧ Ext False w w' := by
 have h := act24_ok w (UInt8.ofNat m)
 have e : (UInt8.ofNat m).toNat = m := by simp; omega
 rw [e] at h
 exact h
theorem perm24_eq (n : UInt8) : (((n.toNat / 24 % 2 : Nat) : Int) == 1) = decide (n.toNat / 24 % 2 = 1) := by
 rw [Bool.eq_iff_iff, beq_iff_eq, decide_eq_true_iff]; omega
theorem perm24_fin : ∀ i : Fin 3, ∀ j : Fin 8, ((([[114, 101, 97, 100], [119, 114, 105, 116, 101], [114, 117, 110]] : List Str).getD i.val []).length ≤ 10 ∧ (([[47], [47, 97], [47, 97, 47, 98], [47, 97, 47, 98, 47, 99], [47, 100], [47, 100, 47, 101], [47, 97, 47, 120], [47, 102]] : List Str).getD j.val []).length ≤ 10) := by decide
theorem J0 (n : UInt8) : (perm24 n).ok := by
 have h1 := perm24_fin ⟨n.toNat / 8 % 3 % 3, by omega⟩ ⟨n.toNat % 8, by omega⟩
 exact ⟨Nat.le_trans h1.1 (by decide), Nat.le_trans h1.2 (by decide)⟩
theorem perm24_ok (w : World) (n : UInt8) : Ok Tryz.prog 38 #[.int .u8 (n.toNat : Int)] w fun v w' => v = .agg (encP (perm24 n)).toArray ∧ Ext False w w' := by
 have hn8 := n.toNat_lt
 refine ZQ 14 func38 rfl rfl rfl ?_
 have hX := xRf w
 refine QH (Qc ?_)
 refine Z2 rfl (JK zeroValue42) ?_
 intro b2 w1 x2 hge2 hb2
 have hlt2 := hb2.lt
 change Box _ _ _ ([str _, str _, .bool _]) at hb2
 have z3 := x2.size
 replace hX := hX.ex x2
 refine Qg (QH (Qc ?_))
 refine Rr (mvI rfl) ?_
 refine Rr (o_quoU8 (a := n.toNat) (b := 8) rfl rfl (by decide) (by omega)) ?_
 refine Rr (o_remU (a := n.toNat / 8) (b := 3) rfl rfl (by decide)) ?_
 refine ZC rfl (ZK call88 rfl) (Ok.mono (act24V_ok (n.toNat / 8 % 3) (by omega) _) ?_)
 rintro _ w4 ⟨rfl, x5⟩
 have z6 := x5.size
 replace hX := hX.ex x5
 replace hb2 := hb2.ext x5
 refine Rr (mvI rfl) ?_
 refine ZC rfl (ZK call89 rfl) (Ok.mono (path24_ok _ n) ?_)
 rintro _ w7 ⟨rfl, x8⟩
 have z9 := x8.size
 replace hX := hX.ex x8
 replace hb2 := hb2.ext x8
 refine Rr (mvI rfl) ?_
 refine Rr (o_quoU8 (a := n.toNat) (b := 24) rfl rfl (by decide) (by omega)) ?_
 refine Rr (o_remU (a := n.toNat / 24) (b := 2) rfl rfl (by decide)) ?_
 refine Rr ((ZZ rfl rfl).trans (by rw [perm24_eq])) ?_
 refine Rr (Z7 (cells := encP (perm24 n)) (vs := [(0, str _), (1, str _), (2, .bool _)]) rfl (by kernel_rfl)) ?_
 refine Ja (v := .agg _) rfl sizeOf42 rfl rfl hb2 rfl rfl rfl ?_
 intro w10 c11 hb2
 change Box _ _ _ (encP _) at hb2
 have z12 := Bel.size c11
 replace hX := Bel.out hX c11 om2
 refine Qg (ZJ ?_)
 refine ⟨_, res_1 (v := .agg _) rfl (Ju isAgg42 sizeOf42 rfl hb2.at rfl), ?_⟩
 exact ⟨rfl, hX⟩

theorem before_ok (x y : E12) (w : World) : Ok Tryz.prog 94 #[.agg (encA12 x).toArray, .agg (encA12 y).toArray] w fun v w' => v = .bool (decide (x.u < y.u) || ((x.u == y.u) && decide (x.r < y.r))) ∧ Ext False w w' := by
 refine ZQ 24 func94 rfl rfl rfl ?_
 have hX := xRf w
 refine QH (Qc ?_)
 refine Z2 rfl (JB (v := .agg _) rfl) ?_
 intro b2 w1 x2 hge2 hb2
 change Box _ _ _ (encA12 _) at hb2
 replace hX := hX.ex x2
 refine Z2 rfl (JB (v := .agg _) rfl) ?_
 intro b3 w3 x4 hge3 hb3
 change Box _ _ _ (encA12 _) at hb3
 replace hX := hX.ex x4
 replace hb2 := hb2.ext x4
 refine Rr Zi ?_
 refine Qg (QH (Qc ?_))
 refine Rr (ZN underlying110 rfl sizeOf3 rfl) ?_
 refine Rr (ZB isAgg3 rfl (hb2.at.get 0 rfl)) ?_
 refine Rr (ZN underlying110 rfl sizeOf3 rfl) ?_
 refine Rr (ZB isAgg3 rfl (hb3.at.get 0 rfl)) ?_
 refine Rr (Z5 rfl rfl) ?_
 refine Rr (mvB rfl) ?_
 refine ZI 5 10 rfl rfl rfl (fun hg => (ZN underlying110 rfl sizeOf3 rfl)) ?_
 refine ZI 5 10 rfl rfl rfl (fun hg => (ZB isAgg3 (ZU (u := undef) hg) (hb2.at.get 0 rfl))) ?_
 refine ZI 5 10 rfl rfl rfl (fun hg => (ZN underlying110 rfl sizeOf3 rfl)) ?_
 refine ZI 5 10 rfl rfl rfl (fun hg => (ZB isAgg3 (ZU (u := undef) hg) (hb3.at.get 0 rfl))) ?_
 refine ZI 5 10 rfl rfl rfl (fun hg => (ZZ (ZU (u := undef) hg) (ZU (u := undef) hg))) ?_
 refine ZI 5 10 rfl rfl rfl (fun hg => (Zt (v := .bool _) (ZU (u := undef) hg))) ?_
 refine JU 11 16 rfl rfl rfl (fun hg => (ZN underlying110 rfl sizeOf3 rfl)) ?_
 refine JU 11 16 rfl rfl rfl (fun hg => (ZB isAgg3 (ZU (u := undef) hg) (hb2.at.get 1 rfl))) ?_
 refine JU 11 16 rfl rfl rfl (fun hg => (ZN underlying110 rfl sizeOf3 rfl)) ?_
 refine JU 11 16 rfl rfl rfl (fun hg => (ZB isAgg3 (ZU (u := undef) hg) (hb3.at.get 1 rfl))) ?_
 refine JU 11 16 rfl rfl rfl (fun hg => (Z5 (ZU (u := undef) hg) (ZU (u := undef) hg))) ?_
 refine ZI 5 10 rfl rfl rfl (fun hg => (Jq (u := undef) (ZU (u := undef) hg) (gand (u := undef) hg))) ?_
 refine Rr (JP (u := undef) rfl rfl) ?_
 refine Rr (asB rfl) ?_
 refine Qg (ZJ ?_)
 refine ⟨_, ZF rfl rfl, ?_⟩
 refine ⟨cvB ?_, hX⟩
 all_goals (rfl)

theorem revoke_ok (w : World) (vl : Value) (l : List E12) (hl : Rd encA12 3 (Lt w.heap.size) w vl l) (nl : l.length ≤ 100000) (u : Int) (r : Int) : Ok Tryz.prog 93 #[vl, .int .i64 u, .int .i64 r] w fun v w' => (∃ a c e M, v = .tuple #[.slice a (M : List E12).length c, .int .i64 e] ∧ Sl encA12 3 (Fsh w w') w' a c M ∧ M.length ≤ l.length) ∧ Ext False w w' := by
 obtain ⟨al, cl, rfl, hl⟩ := hl; have ml := hl.len
 refine ZQ 38 func93 rfl rfl rfl ?_
 have hX := xRf w
 refine QH (Qc ?_)
 refine Rr Zi ?_
 refine Rr Zi ?_
 refine Qg (QH (Qc ?_))
 refine Rr Zi ?_
 refine Qg (QH (QH (Qc ?_)))
 refine Rr (mvS rfl) ?_
 refine Rr (Z0 underlying32 rfl) ?_
 refine Rr Jj ?_
 refine Qg (ZM ?_)
 refine Jk (α := Nat × Value × List E12) [(8, 8), (10, 10), (13, 31)] (fun q => [(13, .int .i64 (q.1 : Int)), (8, q.2.1)]) (fun q w' => (q.1 ≤ l.length ∧ q.2.2.length ≤ q.1) ∧ Bel False (fun g => w.heap.size ≤ g) w w' ∧ (Own encA12 3 110 (fun g => w.heap.size ≤ g) w' q.2.1 q.2.2)) (fun q => l.length - q.1) (0, .slice none 0 0, []) ⟨rfl, rfl, trivial⟩ ⟨⟨Nat.zero_le _, Nat.le_refl _⟩, Bel.refl _ _, Own.nil _ _⟩ ?_
 rintro ⟨k, t, M⟩ fb3 w2 ⟨⟨hk, hM⟩, hXL1, hown⟩
 dsimp only at *
 have z4 := Bel.size hXL1
 replace hX := Bel.out hX hXL1 om2
 replace hl := hl.keep hXL1 om3
 refine QH (Qc ?_)
 refine Rr (Z5 rfl rfl) ?_
 refine Qg (QH ?_)
 refine ZG rfl (fun hc1 => ?_) (fun hc1 => ?_)
 ·replace hc1 := dcT hc1
  refine ZH (QH (ZM (QH (Qc ?_))))
  refine Rr (Js underlying32 sizeOf110 hl rfl rfl omg) ?_
  refine Rr (Jx isAgg110 sizeOf110 hl rfl (Jw az (by omega))) ?_
  refine Z8 rfl rfl zeroValue110 rfl sizeOf110 (fun _ => rfl) rfl rfl ?_
  intro b10 w5 x6 hge10 hb10
  have hlt10 := hb10.lt
  change Box _ _ _ (encA12 _) at hb10
  have z7 := x6.size
  replace hX := hX.ex x6
  replace hXL1 := Bel.ex hXL1 x6
  replace hown := hown.ext x6
  refine Qg (QH (Qc ?_))
  refine Rr (ZN underlying110 rfl sizeOf3 rfl) ?_
  refine Rr (ZB isAgg3 rfl (hb10.at.get 0 rfl)) ?_
  refine Rr (mvI rfl) ?_
  refine Rr (JD rfl rfl) ?_
  refine Rr (mvB rfl) ?_
  refine ZI 4 21 rfl rfl rfl (fun hg => (ZN underlying110 rfl sizeOf3 rfl)) ?_
  refine ZI 4 21 rfl rfl rfl (fun hg => (ZB isAgg3 (ZU (u := undef) hg) (hb10.at.get 1 rfl))) ?_
  refine ZI 4 21 rfl rfl rfl (fun hg => (mvI rfl)) ?_
  refine ZI 4 21 rfl rfl rfl (fun hg => (JD (ZU (u := undef) hg) (ZU (u := undef) hg))) ?_
  refine Rr (JP (u := undef) rfl rfl) ?_
  refine Qg ?_
  refine ZG rfl (fun hc2 => ?_) (fun hc2 => ?_)
  ·refine Qc ?_
   refine Rr (Zt (v := t) rfl) ?_
   refine Rr (ZO isAgg110 sizeOf110 rfl hb10.at rfl) ?_
   refine Jh (vs := [.agg _]) ([(l.getD k az)]) rfl Ji el_a rfl rfl ⟨rfl, trivial⟩ rfl rfl rfl rfl ?_
   intro a29 w8 x9 hown29
   have z10 := x9.size
   replace hX := hX.ex x9
   replace hXL1 := Bel.ex hXL1 x9
   replace hown := hown.ext x9
   replace hown29 := hown29.mono (D' := fun g => w.heap.size ≤ g) (fun g h1 h2 => by omega)
   refine Jd rfl Ji el_a rfl rfl hown (hown29.slA Ji) rfl (by simp; omega) omU ?_
   intro v30 w11 x12 hown
   have z13 := x12.size
   replace hX := Bel.out hX x12 om2
   replace hXL1 := Bel.out hXL1 x12 om2
   refine Rr (ZD (v := v30) rfl) ?_
   refine Qg (Qc ?_)
   refine Rr (Z1 rfl rfl omg) ?_
   refine Rr (mvI rfl) ?_
   refine Qg ?_
   refine ⟨(k + 1, v30, M ++ [(l.getD k az)]), ⟨sT, sT, trivial⟩, oT, ⟨?_, hXL1, ?_⟩, ?_⟩
   ·exact ⟨by show k + 1 ≤ l.length; omega, by simp; omega⟩
   ·exact hown
   ·show l.length - (k + 1) < l.length - k; omega
  refine ZH (Qc ?_)
  refine Rr (Z1 rfl rfl omg) ?_
  refine Rr (mvI rfl) ?_
  refine Qg ?_
  refine ⟨(k + 1, t, M), ⟨sT, sT, trivial⟩, oT, ⟨?_, hXL1, ?_⟩, ?_⟩
  ·exact ⟨by show k + 1 ≤ l.length; omega, by show M.length ≤ k + 1; omega⟩
  ·exact hown
  ·show l.length - (k + 1) < l.length - k; omega
 replace hc1 := dcF hc1
 refine Z4 (ZX (QH (QH (Qc ?_))))
 refine Rr (Zt (v := t) rfl) ?_
 refine Rr (o_llenO underlying32 rfl hown) ?_
 refine Rr (mvS rfl) ?_
 refine Rr (Z0 underlying32 rfl) ?_
 refine Rr (ZZ rfl rfl) ?_
 refine Qg ?_
 refine ZG rfl (fun hc3 => ?_) (fun hc3 => ?_)
 ·refine QH (Qc ?_)
  refine Rr Zi ?_
  refine Rr Zi ?_
  refine Qg (ZJ ?_)
  refine ⟨_, Je rfl rfl rfl, ?_⟩
  exact ⟨⟨none, 0, 4, [], rfl, Sl.none, Nat.zero_le _⟩, hX⟩
 refine ZH (QH (Qc ?_))
 refine Rr (Zt (v := t) rfl) ?_
 refine Rr (ZD (v := t) rfl) ?_
 refine Rr Zi ?_
 refine Qg (ZJ ?_)
 refine ⟨_, Je rfl rfl rfl, ?_⟩
 obtain ⟨at1, ct1, hvt1, hst1⟩ := hown.sl Ji
 subst hvt1
 exact ⟨⟨at1, ct1, 0, M, rfl, hst1.mono (fun g h1 h2 => by omega), by omega⟩, hX⟩

theorem assign_ok (a0 : Option Addr) (c0 : Nat) (G0 : Nat → Prop) (l : List E12) (x : E12) (w : World) (hl0 : Sl encA12 3 G0 w a0 c0 l) (nl : l.length ≤ 100000) : Ok Tryz.prog 42 #[.slice a0 l.length c0, .agg (encA12 x).toArray] w fun v w' => (∃ a c e M, v = .tuple #[.slice a (M : List E12).length c, .int .i64 e] ∧ Sl encA12 3 (Fsh w w') w' a c M ∧ M.length ≤ l.length + 1) ∧ Ext False w w' := by
 obtain ⟨al, hal⟩ : ∃ q, q = a0 := ⟨_, rfl⟩
 obtain ⟨cl, hcl⟩ : ∃ q, q = c0 := ⟨_, rfl⟩
 rw [← hal, ← hcl] at hl0
 rw [← hal, ← hcl]
 have hl := hl0.mono (F' := fun g => g < w.heap.size) (fun g h1 h2 => h1)
 refine ZQ 79 func42 rfl rfl rfl ?_
 have hX := xRf w
 refine QH (Qc ?_)
 refine Z2 rfl (JB (v := .agg _) rfl) ?_
 intro b3 w1 x2 hge3 hb3
 have hlt3 := hb3.lt
 change Box _ _ _ (encA12 _) at hb3
 have z3 := x2.size
 replace hX := hX.ex x2
 replace hl := hl.ext x2
 refine Rr Zi ?_
 refine Rr Zi ?_
 refine Qg (QH (QH (Qc ?_)))
 refine Rr (ZN underlying110 rfl sizeOf3 rfl) ?_
 refine Rr (ZB isAgg3 rfl (hb3.at.get 0 rfl)) ?_
 refine Rr (Z5 rfl rfl) ?_
 refine Rr (mvB rfl) ?_
 refine ZI 3 15 rfl rfl rfl (fun hg => (ZN underlying110 rfl sizeOf3 rfl)) ?_
 refine ZI 3 15 rfl rfl rfl (fun hg => (ZB isAgg3 (ZU (u := undef) hg) (hb3.at.get 0 rfl))) ?_
 refine ZI 3 15 rfl rfl rfl (fun hg => (JY (ZU (u := undef) hg) rfl)) ?_
 refine Rr (JP (u := undef) rfl rfl) ?_
 refine Rr (mvB rfl) ?_
 refine ZI 8 20 rfl rfl rfl (fun hg => (ZN underlying110 rfl sizeOf3 rfl)) ?_
 refine ZI 8 20 rfl rfl rfl (fun hg => (ZB isAgg3 (ZU (u := undef) hg) (hb3.at.get 1 rfl))) ?_
 refine ZI 8 20 rfl rfl rfl (fun hg => (Z5 (ZU (u := undef) hg) rfl)) ?_
 refine Rr (JP (u := undef) rfl rfl) ?_
 refine Rr (mvB rfl) ?_
 refine ZI 13 25 rfl rfl rfl (fun hg => (ZN underlying110 rfl sizeOf3 rfl)) ?_
 refine ZI 13 25 rfl rfl rfl (fun hg => (ZB isAgg3 (ZU (u := undef) hg) (hb3.at.get 1 rfl))) ?_
 refine ZI 13 25 rfl rfl rfl (fun hg => (JY (ZU (u := undef) hg) rfl)) ?_
 refine Rr (JP (u := undef) rfl rfl) ?_
 refine Qg ?_
 refine ZG rfl (fun hc1 => ?_) (fun hc1 => ?_)
 ·refine QH (Qc ?_)
  refine Rr Zi ?_
  refine Rr Zi ?_
  refine Qg (ZJ ?_)
  refine ⟨_, Je rfl rfl rfl, ?_⟩
  exact ⟨⟨none, 0, 1, [], rfl, Sl.none, Nat.zero_le _⟩, hX⟩
 refine ZH (QH (QH (Qc ?_)))
 refine Rr (ZN underlying110 rfl sizeOf3 rfl) ?_
 refine Rr (ZB isAgg3 rfl (hb3.at.get 2 rfl)) ?_
 refine Rr (Z5 rfl rfl) ?_
 refine Rr (mvB rfl) ?_
 refine ZI 3 33 rfl rfl rfl (fun hg => (ZN underlying110 rfl sizeOf3 rfl)) ?_
 refine ZI 3 33 rfl rfl rfl (fun hg => (ZB isAgg3 (ZU (u := undef) hg) (hb3.at.get 2 rfl))) ?_
 refine ZI 3 33 rfl rfl rfl (fun hg => (JY (ZU (u := undef) hg) rfl)) ?_
 refine Rr (JP (u := undef) rfl rfl) ?_
 refine Qg ?_
 refine ZG rfl (fun hc2 => ?_) (fun hc2 => ?_)
 ·refine QH (Qc ?_)
  refine Rr Zi ?_
  refine Rr Zi ?_
  refine Qg (ZJ ?_)
  refine ⟨_, Je rfl rfl rfl, ?_⟩
  exact ⟨⟨none, 0, 2, [], rfl, Sl.none, Nat.zero_le _⟩, hX⟩
 refine ZH (QH (Qc ?_))
 refine Rr (Zt (v := .slice al l.length cl) rfl) ?_
 refine Rr (ZN underlying110 rfl sizeOf3 rfl) ?_
 refine Rr (ZB isAgg3 rfl (hb3.at.get 0 rfl)) ?_
 refine Rr (ZN underlying110 rfl sizeOf3 rfl) ?_
 refine Rr (ZB isAgg3 rfl (hb3.at.get 1 rfl)) ?_
 refine ZC rfl (JH call93 rfl rfl rfl) (Ok.mono (revoke_ok _ _ l hl.trd (by omega) x.u x.r) ?_)
 rintro _ w4 ⟨⟨a44, c44, e44, M44, rfl, hm44, hl44⟩, x5⟩
 have z6 := x5.size
 replace hX := hX.ex x5
 replace hl := hl.ext x5
 replace hb3 := hb3.ext x5
 refine Rr (Zt (v := .tuple _) rfl) ?_
 refine Rr (ZS rfl rfl) ?_
 refine Rr (ZS rfl rfl) ?_
 refine Rr (asS rfl) ?_
 refine Rr (asI rfl) ?_
 refine Qg (QH (QH (Qc ?_)))
 refine Rr (mvI rfl) ?_
 refine Rr (JD rfl rfl) ?_
 refine Qg ?_
 refine ZG rfl (fun hc3 => ?_) (fun hc3 => ?_)
 ·refine Qc ?_
  refine Rr (Zt (v := .slice al l.length cl) rfl) ?_
  refine Rr (ZD (v := .slice al l.length cl) rfl) ?_
  refine Qg (QH (Qc ?_))
  refine Rr Zi ?_
  refine Qg (QH (Qc ?_))
  refine Rr Zi ?_
  refine Qg (QH (QH (Qc ?_)))
  obtain ⟨a44, c44, M44, h44e, hm44, hl44⟩ : ∃ a c M', Value.slice al l.length cl = .slice a (M' : List E12).length c ∧ Sl encA12 3 (Lt w.heap.size) w4 a c M' ∧ M'.length ≤ l.length := ⟨al, cl, l, rfl, hl, Nat.le_refl _⟩
  rw [h44e]
  obtain ⟨n1, hn1⟩ : ∃ n, n = w4.heap.size := ⟨_, rfl⟩
  replace hm44 := hm44.mono (F' := fun g => g < n1) (fun g h1 h2 => by omega)
  refine Rr (Zt (v := .slice a44 M44.length c44) rfl) ?_
  refine Rr (Z0 underlying32 rfl) ?_
  refine Rr Jj ?_
  refine Qg (ZM ?_)
  refine Jk (α := Nat × Value × List E12 × Bool) [(8, 9), (11, 11), (52, 71)] (fun q => [(52, .int .i64 (q.1 : Int)), (8, q.2.1), (9, .bool q.2.2.2)]) (fun q w' => (q.1 ≤ M44.length ∧ q.2.2.1.length ≤ q.1 + (if q.2.2.2 then 1 else 0)) ∧ Bel False (fun g => n1 ≤ g) w4 w' ∧ (Own encA12 3 110 (fun g => n1 ≤ g) w' q.2.1 q.2.2.1)) (fun q => M44.length - q.1) (0, .slice none 0 0, [], false) ⟨rfl, rfl, rfl, trivial⟩ ⟨⟨Nat.zero_le _, Nat.zero_le _⟩, Bel.refl _ _, Own.nil _ _⟩ ?_
  rintro ⟨k, t, M, dn⟩ fb9 w8 ⟨⟨hk, hM⟩, hXL7, hown⟩
  dsimp only at *
  have z10 := Bel.size hXL7
  replace hX := Bel.out hX hXL7 om2
  replace hb3 := hb3.keep hXL7 om1
  replace hm44 := hm44.keep hXL7 om1
  have hM2 : M.length ≤ k + 1 := by split at hM <;> omega
  refine QH (Qc ?_)
  refine Rr (Z5 rfl rfl) ?_
  refine Qg (QH ?_)
  refine ZG rfl (fun hc4 => ?_) (fun hc4 => ?_)
  ·have hk1 : k < M44.length := by have := dcT hc4; omega
   refine ZH (QH (ZM (QH (Qc ?_))))
   refine Rr (Js underlying32 sizeOf110 hm44 rfl rfl omg) ?_
   refine Rr (Jx isAgg110 sizeOf110 hm44 rfl (Jw az (by omega))) ?_
   refine Z8 rfl rfl zeroValue110 rfl sizeOf110 (fun _ => rfl) rfl rfl ?_
   intro b11 w11 x12 hge11 hb11
   replace hown := hown.mono (D' := fun g => n1 ≤ g ∧ g ≠ b11) (fun g h1 h2 => by omega)
   have hlt11 := hb11.lt
   change Box _ _ _ (encA12 _) at hb11
   have z13 := x12.size
   replace hX := hX.ex x12
   replace hXL7 := Bel.ex hXL7 x12
   replace hb3 := hb3.ext x12
   replace hown := hown.ext x12
   refine Qg (QH (QH (Qc ?_)))
   refine Rr (mvB rfl) ?_
   refine Rr (Jf rfl) ?_
   refine Rr (mvB rfl) ?_
   refine ZI 2 58 rfl rfl rfl (fun hg => (ZO isAgg110 sizeOf110 rfl hb3.at rfl)) ?_
   refine ZI 2 58 rfl rfl rfl (fun hg => (ZO isAgg110 sizeOf110 rfl hb11.at rfl)) ?_
   refine JQ 2 58 rfl rfl rfl (fun hg => ⟨(ZW call94 (ZU (u := undef) hg) (ZU (u := undef) hg)), before_ok x (M44.getD k az) _⟩) ?_
   intro w14 x15
   have z16 := x15.size
   replace hX := hX.ex x15
   replace hXL7 := Bel.ex hXL7 x15
   replace hb3 := hb3.ext x15
   replace hown := hown.ext x15
   replace hb11 := hb11.ext x15
   refine Rr (Jq (u := undef) rfl rfl) ?_
   refine Qg ?_
   refine ZG rfl (fun hc5 => ?_) (fun hc5 => ?_)
   ·have hdn : dn = false := by
     rw [Bool.and_eq_true] at hc5
     simpa using hc5.1
    refine QH (Qc ?_)
    refine Rr (Zt (v := t) rfl) ?_
    refine Rr (ZO isAgg110 sizeOf110 rfl hb3.at rfl) ?_
    refine Jh (vs := [.agg _]) ([x]) rfl Ji el_a rfl rfl ⟨rfl, trivial⟩ rfl rfl rfl rfl ?_
    intro a65 w17 x18 hown65
    have z19 := x18.size
    replace hX := hX.ex x18
    replace hXL7 := Bel.ex hXL7 x18
    replace hown := hown.ext x18
    replace hb11 := hb11.ext x18
    replace hown65 := hown65.mono (D' := fun g => n1 ≤ g) (fun g h1 h2 => by omega)
    refine Jd rfl Ji el_a rfl rfl hown (hown65.slA Ji) rfl (by simp; omega) omU ?_
    intro v66 w20 x21 hown
    have z22 := x21.size
    replace hX := Bel.out hX x21 om2
    replace hXL7 := Bel.out hXL7 x21 om2
    replace hb11 := hb11.keep x21 om1
    refine Rr (ZD (v := v66) rfl) ?_
    refine Qg (Qc ?_)
    refine Rr Zi ?_
    refine Qg (Qc ?_)
    refine Rr (Zt (v := v66) rfl) ?_
    refine Rr (ZO isAgg110 sizeOf110 rfl hb11.at rfl) ?_
    refine Jh (vs := [.agg _]) ([(M44.getD k az)]) rfl Ji el_a rfl rfl ⟨rfl, trivial⟩ rfl rfl rfl rfl ?_
    intro a69 w23 x24 hown69
    have z25 := x24.size
    replace hX := hX.ex x24
    replace hXL7 := Bel.ex hXL7 x24
    replace hown := hown.ext x24
    replace hown69 := hown69.mono (D' := fun g => n1 ≤ g) (fun g h1 h2 => by omega)
    refine Jd rfl Ji el_a rfl rfl hown (hown69.slA Ji) rfl (by simp; omega) omU ?_
    intro v70 w26 x27 hown
    have z28 := x27.size
    replace hX := Bel.out hX x27 om2
    replace hXL7 := Bel.out hXL7 x27 om2
    refine Rr (ZD (v := v70) rfl) ?_
    refine Qg (Qc ?_)
    refine Rr (Z1 rfl rfl omg) ?_
    refine Rr (mvI rfl) ?_
    refine Qg ?_
    refine ⟨(k + 1, v70, M ++ [x] ++ [(M44.getD k az)], true), ⟨sT, sT, sT, trivial⟩, oT, ⟨?_, hXL7, ?_⟩, ?_⟩
    ·subst hdn
     exact ⟨by show k + 1 ≤ M44.length; omega, by simp at hM ⊢; omega⟩
    ·exact hown.mono (fun g h1 h2 => by omega)
    ·show M44.length - (k + 1) < M44.length - k; omega
   skip
   refine ZH (Qc ?_)
   refine Rr (Zt (v := t) rfl) ?_
   refine Rr (ZO isAgg110 sizeOf110 rfl hb11.at rfl) ?_
   refine Jh (vs := [.agg _]) ([(M44.getD k az)]) rfl Ji el_a rfl rfl ⟨rfl, trivial⟩ rfl rfl rfl rfl ?_
   intro a69 w29 x30 hown69
   have z31 := x30.size
   replace hX := hX.ex x30
   replace hXL7 := Bel.ex hXL7 x30
   replace hown := hown.ext x30
   replace hown69 := hown69.mono (D' := fun g => n1 ≤ g) (fun g h1 h2 => by omega)
   refine Jd rfl Ji el_a rfl rfl hown (hown69.slA Ji) rfl (by simp; omega) omU ?_
   intro v70 w32 x33 hown
   have z34 := x33.size
   replace hX := Bel.out hX x33 om2
   replace hXL7 := Bel.out hXL7 x33 om2
   refine Rr (ZD (v := v70) rfl) ?_
   refine Qg (Qc ?_)
   refine Rr (Z1 rfl rfl omg) ?_
   refine Rr (mvI rfl) ?_
   refine Qg ?_
   refine ⟨(k + 1, v70, M ++ [(M44.getD k az)], dn), ⟨sT, sT, sT, trivial⟩, oT, ⟨?_, hXL7, ?_⟩, ?_⟩
   ·refine ⟨by show k + 1 ≤ M44.length; omega, ?_⟩
    revert hM
    cases dn <;> simp
   ·exact hown.mono (fun g h1 h2 => by omega)
   ·show M44.length - (k + 1) < M44.length - k; omega
  have hk1 : ¬ k < M44.length := by have := dcF hc4; omega
  refine Z4 (ZX (QH (QH (Qc ?_))))
  refine Rr (mvB rfl) ?_
  refine Rr (Jf rfl) ?_
  refine Qg ?_
  refine ZG rfl (fun hc6 => ?_) (fun hc6 => ?_)
  ·refine Qc ?_
   refine Rr (Zt (v := t) rfl) ?_
   refine Rr (ZO isAgg110 sizeOf110 rfl hb3.at rfl) ?_
   refine Jh (vs := [.agg _]) ([x]) rfl Ji el_a rfl rfl ⟨rfl, trivial⟩ rfl rfl rfl rfl ?_
   intro a76 w35 x36 hown76
   have z37 := x36.size
   replace hX := hX.ex x36
   replace hown := hown.ext x36
   replace hown76 := hown76.mono (D' := fun g => n1 ≤ g) (fun g h1 h2 => by omega)
   refine Jd rfl Ji el_a rfl rfl hown (hown76.slA Ji) rfl (by simp; omega) omU ?_
   intro v77 w38 x39 hown
   have z40 := x39.size
   replace hX := Bel.out hX x39 om2
   refine Rr (ZD (v := v77) rfl) ?_
   refine Qg (QH (Qc ?_))
   refine Rr (Zt (v := v77) rfl) ?_
   refine Rr (ZD (v := v77) rfl) ?_
   refine Rr Zi ?_
   refine Qg (ZJ ?_)
   refine ⟨_, Je rfl rfl rfl, ?_⟩
   obtain ⟨at1, ct1, hvt1, hst1⟩ := hown.sl Ji
   subst hvt1
   exact ⟨⟨at1, ct1, 0, _, rfl, hst1.mono (fun g h1 h2 => by omega), by revert hM; cases dn <;> simp at * <;> omega⟩, hX⟩
  refine ZH (QH (Qc ?_))
  refine Rr (Zt (v := t) rfl) ?_
  refine Rr (ZD (v := t) rfl) ?_
  refine Rr Zi ?_
  refine Qg (ZJ ?_)
  refine ⟨_, Je rfl rfl rfl, ?_⟩
  obtain ⟨at1, ct1, hvt1, hst1⟩ := hown.sl Ji
  subst hvt1
  exact ⟨⟨at1, ct1, 0, _, rfl, hst1.mono (fun g h1 h2 => by omega), by revert hM; cases dn <;> simp at * <;> omega⟩, hX⟩
 refine ZH (QH (Qc ?_))
 refine Rr Zi ?_
 refine Qg (QH (Qc ?_))
 refine Rr Zi ?_
 refine Qg (QH (QH (Qc ?_)))
 obtain ⟨n1, hn1⟩ : ∃ n, n = w4.heap.size := ⟨_, rfl⟩
 replace hm44 := hm44.mono (F' := fun g => g < n1) (fun g h1 h2 => by omega)
 refine Rr (mvS rfl) ?_
 refine Rr (Z0 underlying32 rfl) ?_
 refine Rr Jj ?_
 refine Qg (ZM ?_)
 refine Jk (α := Nat × Value × List E12 × Bool) [(8, 9), (11, 11), (52, 71)] (fun q => [(52, .int .i64 (q.1 : Int)), (8, q.2.1), (9, .bool q.2.2.2)]) (fun q w' => (q.1 ≤ M44.length ∧ q.2.2.1.length ≤ q.1 + (if q.2.2.2 then 1 else 0)) ∧ Bel False (fun g => n1 ≤ g) w4 w' ∧ (Own encA12 3 110 (fun g => n1 ≤ g) w' q.2.1 q.2.2.1)) (fun q => M44.length - q.1) (0, .slice none 0 0, [], false) ⟨rfl, rfl, rfl, trivial⟩ ⟨⟨Nat.zero_le _, Nat.zero_le _⟩, Bel.refl _ _, Own.nil _ _⟩ ?_
 rintro ⟨k, t, M, dn⟩ fb43 w42 ⟨⟨hk, hM⟩, hXL41, hown⟩
 dsimp only at *
 have z44 := Bel.size hXL41
 replace hX := Bel.out hX hXL41 om2
 replace hb3 := hb3.keep hXL41 om1
 replace hm44 := hm44.keep hXL41 om1
 have hM2 : M.length ≤ k + 1 := by split at hM <;> omega
 refine QH (Qc ?_)
 refine Rr (Z5 rfl rfl) ?_
 refine Qg (QH ?_)
 refine ZG rfl (fun hc7 => ?_) (fun hc7 => ?_)
 ·have hk1 : k < M44.length := by have := dcT hc7; omega
  refine ZH (QH (ZM (QH (Qc ?_))))
  refine Rr (Js underlying32 sizeOf110 hm44 rfl rfl omg) ?_
  refine Rr (Jx isAgg110 sizeOf110 hm44 rfl (Jw az (by omega))) ?_
  refine Z8 rfl rfl zeroValue110 rfl sizeOf110 (fun _ => rfl) rfl rfl ?_
  intro b11 w45 x46 hge11 hb11
  replace hown := hown.mono (D' := fun g => n1 ≤ g ∧ g ≠ b11) (fun g h1 h2 => by omega)
  have hlt11 := hb11.lt
  change Box _ _ _ (encA12 _) at hb11
  have z47 := x46.size
  replace hX := hX.ex x46
  replace hXL41 := Bel.ex hXL41 x46
  replace hb3 := hb3.ext x46
  replace hown := hown.ext x46
  refine Qg (QH (QH (Qc ?_)))
  refine Rr (mvB rfl) ?_
  refine Rr (Jf rfl) ?_
  refine Rr (mvB rfl) ?_
  refine ZI 2 58 rfl rfl rfl (fun hg => (ZO isAgg110 sizeOf110 rfl hb3.at rfl)) ?_
  refine ZI 2 58 rfl rfl rfl (fun hg => (ZO isAgg110 sizeOf110 rfl hb11.at rfl)) ?_
  refine JQ 2 58 rfl rfl rfl (fun hg => ⟨(ZW call94 (ZU (u := undef) hg) (ZU (u := undef) hg)), before_ok x (M44.getD k az) _⟩) ?_
  intro w48 x49
  have z50 := x49.size
  replace hX := hX.ex x49
  replace hXL41 := Bel.ex hXL41 x49
  replace hb3 := hb3.ext x49
  replace hown := hown.ext x49
  replace hb11 := hb11.ext x49
  refine Rr (Jq (u := undef) rfl rfl) ?_
  refine Qg ?_
  refine ZG rfl (fun hc8 => ?_) (fun hc8 => ?_)
  ·have hdn : dn = false := by
    rw [Bool.and_eq_true] at hc8
    simpa using hc8.1
   refine QH (Qc ?_)
   refine Rr (Zt (v := t) rfl) ?_
   refine Rr (ZO isAgg110 sizeOf110 rfl hb3.at rfl) ?_
   refine Jh (vs := [.agg _]) ([x]) rfl Ji el_a rfl rfl ⟨rfl, trivial⟩ rfl rfl rfl rfl ?_
   intro a65 w51 x52 hown65
   have z53 := x52.size
   replace hX := hX.ex x52
   replace hXL41 := Bel.ex hXL41 x52
   replace hown := hown.ext x52
   replace hb11 := hb11.ext x52
   replace hown65 := hown65.mono (D' := fun g => n1 ≤ g) (fun g h1 h2 => by omega)
   refine Jd rfl Ji el_a rfl rfl hown (hown65.slA Ji) rfl (by simp; omega) omU ?_
   intro v66 w54 x55 hown
   have z56 := x55.size
   replace hX := Bel.out hX x55 om2
   replace hXL41 := Bel.out hXL41 x55 om2
   replace hb11 := hb11.keep x55 om1
   refine Rr (ZD (v := v66) rfl) ?_
   refine Qg (Qc ?_)
   refine Rr Zi ?_
   refine Qg (Qc ?_)
   refine Rr (Zt (v := v66) rfl) ?_
   refine Rr (ZO isAgg110 sizeOf110 rfl hb11.at rfl) ?_
   refine Jh (vs := [.agg _]) ([(M44.getD k az)]) rfl Ji el_a rfl rfl ⟨rfl, trivial⟩ rfl rfl rfl rfl ?_
   intro a69 w57 x58 hown69
   have z59 := x58.size
   replace hX := hX.ex x58
   replace hXL41 := Bel.ex hXL41 x58
   replace hown := hown.ext x58
   replace hown69 := hown69.mono (D' := fun g => n1 ≤ g) (fun g h1 h2 => by omega)
   refine Jd rfl Ji el_a rfl rfl hown (hown69.slA Ji) rfl (by simp; omega) omU ?_
   intro v70 w60 x61 hown
   have z62 := x61.size
   replace hX := Bel.out hX x61 om2
   replace hXL41 := Bel.out hXL41 x61 om2
   refine Rr (ZD (v := v70) rfl) ?_
   refine Qg (Qc ?_)
   refine Rr (Z1 rfl rfl omg) ?_
   refine Rr (mvI rfl) ?_
   refine Qg ?_
   refine ⟨(k + 1, v70, M ++ [x] ++ [(M44.getD k az)], true), ⟨sT, sT, sT, trivial⟩, oT, ⟨?_, hXL41, ?_⟩, ?_⟩
   ·subst hdn
    exact ⟨by show k + 1 ≤ M44.length; omega, by simp at hM ⊢; omega⟩
   ·exact hown.mono (fun g h1 h2 => by omega)
   ·show M44.length - (k + 1) < M44.length - k; omega
  skip
  refine ZH (Qc ?_)
  refine Rr (Zt (v := t) rfl) ?_
  refine Rr (ZO isAgg110 sizeOf110 rfl hb11.at rfl) ?_
  refine Jh (vs := [.agg _]) ([(M44.getD k az)]) rfl Ji el_a rfl rfl ⟨rfl, trivial⟩ rfl rfl rfl rfl ?_
  intro a69 w63 x64 hown69
  have z65 := x64.size
  replace hX := hX.ex x64
  replace hXL41 := Bel.ex hXL41 x64
  replace hown := hown.ext x64
  replace hown69 := hown69.mono (D' := fun g => n1 ≤ g) (fun g h1 h2 => by omega)
  refine Jd rfl Ji el_a rfl rfl hown (hown69.slA Ji) rfl (by simp; omega) omU ?_
  intro v70 w66 x67 hown
  have z68 := x67.size
  replace hX := Bel.out hX x67 om2
  replace hXL41 := Bel.out hXL41 x67 om2
  refine Rr (ZD (v := v70) rfl) ?_
  refine Qg (Qc ?_)
  refine Rr (Z1 rfl rfl omg) ?_
  refine Rr (mvI rfl) ?_
  refine Qg ?_
  refine ⟨(k + 1, v70, M ++ [(M44.getD k az)], dn), ⟨sT, sT, sT, trivial⟩, oT, ⟨?_, hXL41, ?_⟩, ?_⟩
  ·refine ⟨by show k + 1 ≤ M44.length; omega, ?_⟩
   revert hM
   cases dn <;> simp
  ·exact hown.mono (fun g h1 h2 => by omega)
  ·show M44.length - (k + 1) < M44.length - k; omega
 have hk1 : ¬ k < M44.length := by have := dcF hc7; omega
 refine Z4 (ZX (QH (QH (Qc ?_))))
 refine Rr (mvB rfl) ?_
 refine Rr (Jf rfl) ?_
 refine Qg ?_
 refine ZG rfl (fun hc9 => ?_) (fun hc9 => ?_)
 ·refine Qc ?_
  refine Rr (Zt (v := t) rfl) ?_
  refine Rr (ZO isAgg110 sizeOf110 rfl hb3.at rfl) ?_
  refine Jh (vs := [.agg _]) ([x]) rfl Ji el_a rfl rfl ⟨rfl, trivial⟩ rfl rfl rfl rfl ?_
  intro a76 w69 x70 hown76
  have z71 := x70.size
  replace hX := hX.ex x70
  replace hown := hown.ext x70
  replace hown76 := hown76.mono (D' := fun g => n1 ≤ g) (fun g h1 h2 => by omega)
  refine Jd rfl Ji el_a rfl rfl hown (hown76.slA Ji) rfl (by simp; omega) omU ?_
  intro v77 w72 x73 hown
  have z74 := x73.size
  replace hX := Bel.out hX x73 om2
  refine Rr (ZD (v := v77) rfl) ?_
  refine Qg (QH (Qc ?_))
  refine Rr (Zt (v := v77) rfl) ?_
  refine Rr (ZD (v := v77) rfl) ?_
  refine Rr Zi ?_
  refine Qg (ZJ ?_)
  refine ⟨_, Je rfl rfl rfl, ?_⟩
  obtain ⟨at1, ct1, hvt1, hst1⟩ := hown.sl Ji
  subst hvt1
  exact ⟨⟨at1, ct1, 0, _, rfl, hst1.mono (fun g h1 h2 => by omega), by revert hM; cases dn <;> simp at * <;> omega⟩, hX⟩
 refine ZH (QH (Qc ?_))
 refine Rr (Zt (v := t) rfl) ?_
 refine Rr (ZD (v := t) rfl) ?_
 refine Rr Zi ?_
 refine Qg (ZJ ?_)
 refine ⟨_, Je rfl rfl rfl, ?_⟩
 obtain ⟨at1, ct1, hvt1, hst1⟩ := hown.sl Ji
 subst hvt1
 exact ⟨⟨at1, ct1, 0, _, rfl, hst1.mono (fun g h1 h2 => by omega), by revert hM; cases dn <;> simp at * <;> omega⟩, hX⟩

