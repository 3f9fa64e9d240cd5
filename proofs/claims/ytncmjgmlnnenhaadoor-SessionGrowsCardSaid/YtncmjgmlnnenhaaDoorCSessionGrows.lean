/- The law arbac/arbaclaw22.SessionGrows: for every input the call returns true, and each argument reads afterwards as it read before; the listed tables as the program's text lays them. -/
import Derived.Test.YtncmjgmlnnenhaaDoorCards
import Derived.Test.YtncmjgmlnnenhaaDoorTie
import Derived.Test.YtncmjgmlnnenhaaDoorWopen22
import Derived.Test.YtncmjgmlnnenhaaDoorWlaw22g
import Derived.Test.YtncmjgmlnnenhaaDoorOrd
import Derived.Deep.DeepHandedRow
import Derived.Lib.LaidTab
import Derived.SevenTiedAt
namespace Go.Proofs.YtncmjgmlnnenhaaDoor.sessionGrows
open Go Go.Lx Go.ChangeShapes Go.WideShapes Go.ChangeAt Go.RowKit
set_option maxRecDepth 100000
set_option linter.unusedVariables false
set_option linter.unusedSimpArgs false
set_option linter.unnecessarySimpa false
theorem own : ownKnob Tryd.prog.godebug = none := by kernel_rfl
theorem laidOut : laidOutB Tryd.prog = true := by kernel_rfl
theorem contract (H : Type) (enc : TypeId × Value → H) (W : World) (base : Nat) (args : Array Value) (ds gs : List (DataW H)) (before : List MemPlace)
    (hval : ∀ (j : Nat) t v, Tryd.f5.params[j]? = some t → args[j]? = some v → Value.okWide Tryd.prog W .any base t v)
    (hW : DataW.Whole enc Tryd.prog Tryd.f5.params.toList Rows.sessionGrowsSpec.vars false W args.toList ds gs before) (hT : Tb W) :
    Calls Tryd.prog 5 args W fun e W' => ∃ v, e = .returned v ∧ Rows.sessionGrowsSpec.post enc Tryd.prog Tryd.f5 false true false false W args v W' := by
  have hW' := hW
  obtain ⟨p, q, hA0, hV, rfl, hfz, hnd⟩ := hW
  have hA : DataW.TrodAll enc Tryd.prog W 0 (fun _ => true) true Tryd.f5.params.toList args.toList ds p := hA0
  rw [Tryd.params5] at hA hval
  obtain ⟨la, hla⟩ : ∃ la, args.toList = la := ⟨_, rfl⟩
  rw [hla] at hA
  obtain ⟨w0, vs0, d0, ds0, p0, q0, hl0, rfl, hq0, h0, r0⟩ := trodAll_cons hA
  obtain ⟨w1, vs1, d1, ds1, p1, q1, rfl, rfl, rfl, h1, r1⟩ := trodAll_cons r0
  obtain ⟨w2, vs2, d2, ds2, p2, q2, rfl, rfl, rfl, h2, r2⟩ := trodAll_cons r1
  obtain ⟨rfl, rfl, rfl⟩ := trodAll_nil r2
  obtain rfl : args = #[w0, w1, w2] := by cases args; simp_all
  obtain ⟨v0, x0, rfl, hx0, hy0⟩ := open_ops (hval 0 33 w0 rfl rfl) h0
  obtain ⟨x1, y1, rfl⟩ := open_u82 (hval 1 50 w1 rfl rfl) h1
  obtain ⟨x2, rfl⟩ := open_u64 (hval 2 34 w2 rfl rfl) h2
  refine Calls.mono (law_SessionGrows W hT _ x0 hx0 hy0 x1 y1 x2) ?_
  rintro e W' ⟨v, he, rfl, hb⟩
  exact ⟨_, he, law_post (tb := 4) laidOut (by kernel_rfl) rfl ⟨rfl, rfl, rfl⟩ rfl Tryd.underlying4 hW' hb.below⟩
def wArgs : Array Value := #[.slice none 0 0, .agg #[.int .u8 0, .int .u8 0], .int .u64 0]
noncomputable def laidWorld (os : Os) : World :=
  let h0 := (World.holding Tryd.prog os ⟨#[], #[], []⟩).heap
  { World.holding Tryd.prog os ⟨#[], #[], []⟩ with heap := layIn (h0) 0 Rows.laid_math_bits_deBruijn64tab }
theorem laid_met (os : Os) : laidMet Tryd.prog Rows.sessionGrowsRow.laid ((laidWorld os).forCall (fun _ _ => 0) ⟨#[], wArgs, []⟩).memory :=
  laidMet_of_run' 8 (by kernel_rfl) (by kernel_rfl)
theorem reads (os : Os) {H : Type} (enc : TypeId × Value → H) : ∃ places, DataW.whole enc Tryd.prog ((laidWorld os).forCall (fun _ _ => 0) ⟨#[], wArgs, []⟩).memory Tryd.f5.params.toList Rows.sessionGrowsSpec.vars false wArgs.toList 8 = some ([.nil, .agg [.lit (.int .u8 0), .lit (.int .u8 0)], .lit (.int .u64 0)], [], places) :=
  ⟨[], by kernel_rfl⟩
theorem lifted (os : Os) (started : os.Started) (H : Type) (enc : TypeId × Value → H) (F : Stop.Interp) :
    ReturnsInHanded {} Tryd.checked os 5 .any ((OpenSpec.ofChange Rows.sessionGrowsSpec).preRow enc Tryd.prog Tryd.f5 Rows.sessionGrowsRow.domain false Rows.sessionGrowsRow.laid) (((OpenSpec.ofChange Rows.sessionGrowsSpec).at F).post enc Tryd.prog Tryd.f5 false true false false) := by
  obtain ⟨places, hx⟩ := reads os enc
  refine returnsInHanded_of_row (C := Tryd.checked) (s := OpenSpec.ofChange Rows.sessionGrowsSpec) own started (by kernel_rfl) Tryd.func5
    (witness_row_at (enc := enc) (C := Tryd.checked) false (laidWorld os) wArgs rfl (by kernel_rfl) (by kernel_rfl) (by kernel_rfl)
      (OpenSpec.preRow_of_cond 8 hx (by kernel_rfl) (fun k hk => by cases hk) (by kernel_rfl) (laid_met os))) ?_
  intro W base args ds gs before hval hW _ _ _ hL _ _
  exact contract H enc W base args ds gs before hval hW (tb_of hL)
theorem said : Rows.SessionGrowsSaid :=
  OpenClaim.holds_of_cond 5 Tryd.f5 rfl rfl rfl rfl rfl rfl rfl ⟨rfl, rfl, rfl, rfl, rfl⟩ rfl rfl rfl rfl rfl (by kernel_rfl) Tryd.func5 (by kernel_rfl)
    (of_decide_eq_true (by kernel_rfl)) (by unfold Func.isWrapper; first | (rw [if_pos (by decide +kernel)]; kernel_rfl) | (rw [if_neg (by decide +kernel)]; exact ⟨rfl, rfl⟩))
    (fun os started H enc _ F => by rw [OpenClaim.pre_eq_preRow]; exact lifted os started H enc F)
theorem plain (f : FuncId) (fn : Func) (hf : Tryd.pinned.checked.prog.funcNamed Tryd.f5.name = some f) (hfn : Tryd.pinned.checked.prog.funcs[f]? = some fn) :
    false = Tryd.pinned.checked.prog.looks [] ∧ ∀ (j : Nat) t, fn.params[j]? = some t → Tryd.pinned.checked.prog.wantsStandIn t = false := by
  obtain rfl : f = 5 := Option.some.inj ((show Tryd.prog.funcNamed Tryd.f5.name = some 5 by kernel_rfl).symm.trans hf) |>.symm
  obtain rfl : fn = Tryd.f5 := (Option.some.inj (Tryd.func5.symm.trans hfn)).symm
  refine ⟨by kernel_rfl, fun j t ht => ?_⟩
  rw [Tryd.params5] at ht
  have hm : t ∈ [33, 50, 34] := by simpa using Array.mem_of_getElem? ht
  have hall : ([33, 50, 34].all fun u => !Tryd.prog.wantsStandIn u) = true := by kernel_rfl
  exact (show Tryd.prog.wantsStandIn t = false by simpa using List.all_eq_true.1 hall t hm)
end Go.Proofs.YtncmjgmlnnenhaaDoor.sessionGrows
namespace Go.Proofs.YtncmjgmlnnenhaaDoor
open Go
set_option maxRecDepth 100000
theorem sessionGrows_card : Rows.SessionGrowsCardSaid :=
  Claim7.holds_tied_plain_at .later [] _ _ _ _ sessionGrows.said (fun _ h => by cases h) (by kernel_rfl) (fun _ h => by cases h) sessionGrows_row_tie rfl ⟨rfl, rfl⟩ (by kernel_rfl) rfl sessionGrows.plain (by kernel_rfl)
end Go.Proofs.YtncmjgmlnnenhaaDoor
