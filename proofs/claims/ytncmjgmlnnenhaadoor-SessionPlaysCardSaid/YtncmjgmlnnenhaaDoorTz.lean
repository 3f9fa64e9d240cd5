/- The members of a word, from the least on; the library's count of trailing zeros; a call of yield. -/
import Derived.Test.YtncmjgmlnnenhaaDoorRng
import Derived.Test.YtncmjgmlnnenhaaDoorSv
import Derived.Test.YtncmjgmlnnenhaaDoorShelf
namespace Go.Lx
open Go Go.RowKit
set_option linter.unusedSimpArgs false
set_option linter.unusedVariables false
set_option linter.unnecessarySimpa false
def ctzW (x : W64) : Nat := Lib.ctz 64 x.toNat
theorem ctz_spec {x : W64} (h : x ≠ 0) : ∃ m, x.toNat = 2 ^ ctzW x * (2 * m + 1) ∧ ctzW x < 64 := by
  have h0 : x.toNat ≠ 0 := fun e => h (by apply BitVec.eq_of_toNat_eq; simpa using e)
  have := Lib.ctzFrom_spec 64 x.toNat (by omega) x.isLt
  have e : ctzW x = Lib.ctzFrom 64 x.toNat := by simp [ctzW, Lib.ctz, h0]
  rw [e]; exact this
theorem odd_bit (m i : Nat) : (2 * m + 1).testBit i = if i = 0 then true else m.testBit (i - 1) := by
  cases i with
  | zero => simp [Nat.testBit_zero]
  | succ i => simp [Nat.testBit_succ]; congr 1; omega
theorem even_bit (m i : Nat) : (2 * m).testBit i = if i = 0 then false else m.testBit (i - 1) := by
  cases i with
  | zero => simp [Nat.testBit_zero]
  | succ i => simp [Nat.testBit_succ]
theorem ctz_bit {x : W64} (h : x ≠ 0) (i : Nat) : x.getLsbD i = if i < ctzW x then false else if i = ctzW x then true else x.getLsbD i := by
  obtain ⟨m, hm, hk⟩ := ctz_spec h
  have e : x.getLsbD i = x.toNat.testBit i := rfl
  by_cases h1 : i < ctzW x
  · rw [if_pos h1, e, hm]
    have := Nat.testBit_two_pow_mul_add (2 * m + 1) (b := 0) (i := ctzW x) (by exact Nat.two_pow_pos _) i
    rw [Nat.add_zero] at this
    rw [this, if_pos h1]; simp
  · rw [if_neg h1]
    by_cases h2 : i = ctzW x
    · rw [if_pos h2, e, hm]
      have := Nat.testBit_two_pow_mul_add (2 * m + 1) (b := 0) (i := ctzW x) (by exact Nat.two_pow_pos _) i
      rw [Nat.add_zero] at this
      rw [this, if_neg h1, odd_bit, if_pos (by omega)]
    · rw [if_neg h2]
theorem clear_bit {x : W64} (h : x ≠ 0) (i : Nat) : (x &&& (x - 1#64)).getLsbD i = (x.getLsbD i && !decide (i = ctzW x)) := by
  obtain ⟨m, hm, hk⟩ := ctz_spec h
  have hp : 0 < 2 ^ ctzW x := Nat.two_pow_pos _
  have h0 : 1 ≤ x.toNat := by rw [hm]; exact Nat.mul_pos hp (by omega)
  have e1 : (x - 1#64).toNat = 2 ^ ctzW x * (2 * m) + (2 ^ ctzW x - 1) := by
    have hlt := x.isLt
    rw [BitVec.toNat_sub]
    simp only [BitVec.toNat_ofNat, Nat.reducePow, Nat.reduceMod, Nat.reduceSub]
    have e2 : x.toNat = 2 ^ ctzW x * (2 * m) + 2 ^ ctzW x := by rw [hm]; exact Nat.mul_succ _ _
    omega
  rw [BitVec.getLsbD_and]
  have ex : x.getLsbD i = x.toNat.testBit i := rfl
  have ey : (x - 1#64).getLsbD i = (x - 1#64).toNat.testBit i := rfl
  have a1 := Nat.testBit_two_pow_mul_add (2 * m + 1) (b := 0) (i := ctzW x) hp i
  rw [Nat.add_zero, ← hm] at a1
  have a2 := Nat.testBit_two_pow_mul_add (2 * m) (b := 2 ^ ctzW x - 1) (i := ctzW x) (by omega) i
  rw [ex, ey, e1, a1, a2]
  by_cases h1 : i < ctzW x
  · simp [h1]
  · rw [if_neg h1, if_neg h1, odd_bit, even_bit]
    by_cases h2 : i = ctzW x
    · subst h2; simp
    · have : i - ctzW x ≠ 0 := by omega
      simp [this, h2]
theorem mem_step {x : W64} (h : x ≠ 0) (k : Nat) : memW x k = (if ctzW x < k then (ctzW x : Int) :: memW (x &&& (x - 1#64)) k else []) ∧ (k ≤ ctzW x → memW (x &&& (x - 1#64)) k = []) := by
  induction k with
  | zero => exact ⟨rfl, fun _ => rfl⟩
  | succ k ih =>
    obtain ⟨h1, h2⟩ := ih
    have hb := ctz_bit h k
    have hc := clear_bit h k
    by_cases a : k < ctzW x
    · rw [if_pos a] at hb
      rw [hb] at hc
      rw [mem_no hb, mem_no (by simpa using hc), h1, if_neg (by omega), if_neg (by omega)]
      exact ⟨rfl, fun _ => h2 (by omega)⟩
    · rw [if_neg a] at hb
      by_cases c : k = ctzW x
      · rw [if_pos c] at hb
        rw [hb, c] at hc
        rw [mem_yes hb, h1, if_neg (by omega), if_pos (by omega)]
        have := mem_no (x := x &&& (x - 1#64)) (k := k) (by rw [c]; simpa using hc)
        rw [this, h2 (by omega), c]
        exact ⟨rfl, fun h => by omega⟩
      · have hc' : (x &&& (x - 1#64)).getLsbD k = x.getLsbD k := by rw [hc]; simp [c]
        refine ⟨?_, fun h => by omega⟩
        cases hx : x.getLsbD k with
        | true => rw [mem_yes hx, mem_yes (hc'.trans hx), h1, if_pos (by omega), if_pos (by omega)]; rfl
        | false => rw [mem_no hx, mem_no (hc'.trans hx), h1, if_pos (by omega), if_pos (by omega)]
theorem mem_cons {x : W64} (h : x ≠ 0) : memW x 64 = (ctzW x : Int) :: memW (x &&& (x - 1#64)) 64 := by
  obtain ⟨m, hm, hk⟩ := ctz_spec h
  have := (mem_step h 64).1
  rwa [if_pos hk] at this
theorem mem_zero : memW 0 64 = [] := by
  simp [memW]
theorem mem_ne {x : W64} (h : memW x 64 = []) : x = 0 := by
  have := ofW_mem x
  rw [h] at this
  exact this.symm
/-- x without its j least members. -/
def restW (x : W64) : Nat → W64
  | 0 => x
  | j + 1 => restW x j &&& (restW x j - 1#64)
theorem rest_mem (x : W64) : ∀ j, j ≤ (memW x 64).length → memW (restW x j) 64 = (memW x 64).drop j
  | 0, _ => rfl
  | j + 1, h => by
    have ih := rest_mem x j (by omega)
    have hne : restW x j ≠ 0 := by
      intro e
      rw [e, mem_zero] at ih
      have := congrArg List.length ih
      simp at this; omega
    rw [mem_cons hne] at ih
    have := congrArg List.tail ih
    simp only [List.tail_cons, List.tail_drop] at this
    exact this
theorem rest_yes {x : W64} {j : Nat} (h : j ≤ (memW x 64).length) (hn : restW x j ≠ 0) : j < (memW x 64).length ∧ (memW x 64)[j]? = some (ctzW (restW x j) : Int) := by
  have := rest_mem x j h
  rw [mem_cons hn] at this
  have hl := congrArg List.length this
  simp at hl
  refine ⟨by omega, ?_⟩
  have h2 := congrArg (fun l => l[0]?) this
  simpa using h2.symm
theorem rest_no {x : W64} {j : Nat} (h : j ≤ (memW x 64).length) (hn : restW x j = 0) : j = (memW x 64).length := by
  have := rest_mem x j h
  rw [hn, mem_zero] at this
  have hl := congrArg List.length this
  simp at hl
  omega
theorem ctz_lt {x : W64} (h : x ≠ 0) : ctzW x < 64 := by
  obtain ⟨m, hm, hk⟩ := ctz_spec h
  exact hk
/-- The library's table, in its variable. -/
abbrev tabL : List Value := Lib.deBruijn64tab.map fun (n : Nat) => Value.int .u8 (n : Int)
abbrev Tb (w : World) : Prop := At w 0 0 tabL
theorem Tb.at {w : World} (h : Tb w) : Proofs.TabAt 0 Lib.deBruijn64tab w := by
  intro j hj
  have := h.get (v := .int .u8 ((Lib.deBruijn64tab.getD j 0 : Nat) : Int)) j (by
    rw [tabL, List.getElem?_map, List.getElem?_eq_getElem hj]
    simp [List.getD, List.getElem?_eq_getElem hj])
  rwa [Nat.zero_add] at this
theorem tz_ok (x : W64) (w : World) (hT : Tb w) : Ok Proofs.Tryd.prog 74 #[u64 x] w fun v w' => v = .int .i64 (ctzW x : Int) ∧ Ext False w w' := by
  refine Calls.mono (Proofs.Any7.bits_TrailingZeros64 Proofs.Tryd.tz64l x.toNat x.isLt w (fun _ => hT.at)) ?_
  rintro e w' ⟨rfl, rfl⟩
  exact ⟨_, rfl, rfl, Ext.rfl' _⟩
section
variable {P : Program} {n : Nat} {K : Fr → World → Prop} {fr : Fr} {w : World}
theorem Rg_yield {ops : Array Oper} {d : Option Nat} {y x : Operand} {tys : Array TypeId} {ty : TypeId} {pos : String} {af : Array Edge} {rest : List Oper} {l : Nat} {v : Value} {S : World → Prop} (hd : dstOk n d = true)
    (hy : ev fr y = .func (.yield l) #[] #[]) (hx : ev fr x = v) (h : Yl P l #[v] w fun e b => e = .returned (.bool true) ∧ S b)
    (hk : ∀ b, S b → Rg none P n ops rest K (fr.put d (.bool true)) b) :
    Rg none P n ops (⟨d, .call { callee := .value y, args := #[x], argTypes := tys }, ty, pos, af, none⟩ :: rest) K fr w := by
  intro N Q hq a ha
  refine wpListIn_plain rfl fun K' hK' => ?_
  unfold Oper.wpIn
  rw [ev_eq ha]
  refine ⟨fun _ _ => trivial, ?_⟩
  obtain ⟨fn, tmps, assign, body, hr, hro⟩ := h (N - 1)
  have he : (execOp (ev fr) ⟨d, .call { callee := .value y, args := #[x], argTypes := tys }, ty, pos, af, none⟩).run P w = .ok (.round l fn tmps assign body) w := by
    subst hx
    simp [execOp, resolve, hy, Deferred.ofValue, invoke, hr]
  rw [show (Fw none).round = none from rfl, semAt_run he (fun _ e => by cases e)]
  refine ⟨fun e => (by cases e), RoundIn.mono hro ?_⟩
  rintro e b ⟨rfl, hs⟩
  exact hK' _ _ (hk b hs N Q hq _ (is_put ha hd _))
end
end Go.Lx
