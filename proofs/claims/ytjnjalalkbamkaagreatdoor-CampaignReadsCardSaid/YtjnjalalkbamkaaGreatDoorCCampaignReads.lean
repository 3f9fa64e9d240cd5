/- The law arbac/arbaclaw52.CampaignReads: for every input the call returns true, and each argument reads afterwards as it read before; the listed tables as the program's text lays them. -/
import Derived.Test.YtjnjalalkbamkaaGreatDoorCards
import Derived.Test.YtjnjalalkbamkaaGreatDoorTie
import Derived.Test.YtjnjalalkbamkaaGreatDoorWopen52
import Derived.Test.YtjnjalalkbamkaaGreatDoorPure11f
import Derived.Deep.DeepHandedRow
import Derived.Lib.LaidTab
import Derived.SevenTiedAt
set_option linter.unusedVariables false
set_option linter.unusedSimpArgs false
set_option linter.unnecessarySimpa false
namespace Go.Proofs.YtjnjalalkbamkaaGreatDoor.campaignReads
open Go Go.Lx Go.ChangeShapes Go.WideShapes Go.ChangeAt Go.RowKit
set_option maxRecDepth 100000
theorem own : ownKnob Tryz.prog.godebug = none := by kernel_rfl
theorem laidOut : laidOutB Tryz.prog = true := by kernel_rfl
theorem contract (H : Type) (enc : TypeId × Value → H) (W : World) (base : Nat) (args : Array Value) (ds gs : List (DataW H)) (before : List MemPlace)
  (hval : ∀ (j : Nat) t v, Tryz.f3.params[j]? = some t → args[j]? = some v → Value.okWide Tryz.prog W .any base t v)
  (hW : DataW.Whole enc Tryz.prog Tryz.f3.params.toList Rows.campaignReadsSpec.vars false W args.toList ds gs before) (hT : Tb W) :
  Calls Tryz.prog 3 args W fun e W' => ∃ v, e = .returned v ∧ Rows.campaignReadsSpec.post enc Tryz.prog Tryz.f3 false true false false W args v W' := by
 have hW' := hW
 obtain ⟨p, q, hA0, hV, rfl, hfz, hnd⟩ := hW
 have hA : DataW.TrodAll enc Tryz.prog W 0 (fun _ => true) true Tryz.f3.params.toList args.toList ds p := hA0
 rw [Tryz.params3] at hA hval
 obtain ⟨la, hla⟩ : ∃ la, args.toList = la := ⟨_, rfl⟩
 rw [hla] at hA
 obtain ⟨w0, vs0, d0, ds0, p0, q0, hl0, rfl, hq0, h0, r0⟩ := trodAll_cons hA
 obtain ⟨w1, vs1, d1, ds1, p1, q1, rfl, rfl, rfl, h1, r1⟩ := trodAll_cons r0
 obtain ⟨w2, vs2, d2, ds2, p2, q2, rfl, rfl, rfl, h2, r2⟩ := trodAll_cons r1
 obtain ⟨rfl, rfl, rfl⟩ := trodAll_nil r2
 obtain rfl : args = #[w0, w1, w2] := by cases args; simp_all
 obtain ⟨x0, a0, n0, rfl, hx0⟩ := open_camp (hval 0 24 w0 rfl rfl) h0
 obtain ⟨x1, rfl, hx1⟩ := open_u16 (hval 1 25 w1 rfl rfl) h1
 obtain ⟨x2, rfl⟩ := open_u8 (hval 2 5 w2 rfl rfl) h2
 refine Calls.mono (law_CampaignReads W hT x0 a0 n0 hx0 x1 hx1 x2) ?_
 rintro e W' ⟨v, he, rfl, hb⟩
 exact ⟨_, he, law_post (tb := 4) laidOut (by kernel_rfl) rfl ⟨rfl, rfl, rfl⟩ rfl Tryz.underlying4 hW' hb.below⟩
def wArgs : Array Value := #[.agg #[.int .i64 0, .int .i64 0, .int .i64 0, .int .i64 0, .bool false, .slice none 0 0], .int .u16 0, .int .u8 0]
noncomputable def laidWorld (os : Os) : World :=
 let h0 := (World.holding Tryz.prog os ⟨#[], #[], []⟩).heap
 { World.holding Tryz.prog os ⟨#[], #[], []⟩ with heap := layIn (layIn (layIn (h0) 0 Rows.laid_math_bits_deBruijn64tab) 3 Rows.laid_unicode_utf8_acceptRanges) 2 Rows.laid_unicode_utf8_first }
theorem laid_met (os : Os) : laidMet Tryz.prog Rows.campaignReadsRow.laid ((laidWorld os).forCall (fun _ _ => 0) ⟨#[], wArgs, []⟩).memory :=
 laidMet_of_run' 8 (by kernel_rfl) (by kernel_rfl)
theorem reads (os : Os) {H : Type} (enc : TypeId × Value → H) : ∃ places, DataW.whole enc Tryz.prog ((laidWorld os).forCall (fun _ _ => 0) ⟨#[], wArgs, []⟩).memory Tryz.f3.params.toList Rows.campaignReadsSpec.vars false wArgs.toList 8 = some ([.agg [.lit (.int .i64 0), .lit (.int .i64 0), .lit (.int .i64 0), .lit (.int .i64 0), .lit (.bool false), .nil], .lit (.int .u16 0), .lit (.int .u8 0)], [], places) :=
 ⟨[], by kernel_rfl⟩
theorem lifted (os : Os) (started : os.Started) (H : Type) (enc : TypeId × Value → H) (F : Stop.Interp) :
  ReturnsInHanded {} Tryz.checked os 3 .any ((OpenSpec.ofChange Rows.campaignReadsSpec).preRow enc Tryz.prog Tryz.f3 Rows.campaignReadsRow.domain false Rows.campaignReadsRow.laid) (((OpenSpec.ofChange Rows.campaignReadsSpec).at F).post enc Tryz.prog Tryz.f3 false true false false) := by
 obtain ⟨places, hx⟩ := reads os enc
 refine returnsInHanded_of_row (C := Tryz.checked) (s := OpenSpec.ofChange Rows.campaignReadsSpec) own started (by kernel_rfl) Tryz.func3
  (witness_row_at (enc := enc) (C := Tryz.checked) false (laidWorld os) wArgs rfl (by kernel_rfl) (by kernel_rfl) (by kernel_rfl)
   (OpenSpec.preRow_of_cond 8 hx (by kernel_rfl) (fun k hk => by cases hk) (by kernel_rfl) (laid_met os))) ?_
 intro W base args ds gs before hval hW _ _ _ hL _ _
 exact contract H enc W base args ds gs before hval hW (tb_of hL)
theorem said : Rows.CampaignReadsSaid :=
 OpenClaim.holds_of_cond 3 Tryz.f3 rfl rfl rfl rfl rfl rfl rfl ⟨rfl, rfl, rfl, rfl, rfl⟩ rfl rfl rfl rfl rfl (by kernel_rfl) Tryz.func3 (by kernel_rfl)
  (of_decide_eq_true (by kernel_rfl)) (by unfold Func.isWrapper; first | (rw [if_pos (by decide +kernel)]; kernel_rfl) | (rw [if_neg (by decide +kernel)]; exact ⟨rfl, rfl⟩))
  (fun os started H enc _ F => by rw [OpenClaim.pre_eq_preRow]; exact lifted os started H enc F)
theorem plain (f : FuncId) (fn : Func) (hf : Tryz.pinned.checked.prog.funcNamed Tryz.f3.name = some f) (hfn : Tryz.pinned.checked.prog.funcs[f]? = some fn) :
  true = Tryz.pinned.checked.prog.looks [] ∧ ∀ (j : Nat) t, fn.params[j]? = some t → Tryz.pinned.checked.prog.wantsStandIn t = false := by
 obtain rfl : f = 3 := Option.some.inj ((show Tryz.prog.funcNamed Tryz.f3.name = some 3 by kernel_rfl).symm.trans hf) |>.symm
 obtain rfl : fn = Tryz.f3 := (Option.some.inj (Tryz.func3.symm.trans hfn)).symm
 refine ⟨by kernel_rfl, fun j t ht => ?_⟩
 rw [Tryz.params3] at ht
 have hm : t ∈ [24, 25, 5] := by simpa using Array.mem_of_getElem? ht
 have hall : ([24, 25, 5].all fun u => !Tryz.prog.wantsStandIn u) = true := by kernel_rfl
 exact (show Tryz.prog.wantsStandIn t = false by simpa using List.all_eq_true.1 hall t hm)
end Go.Proofs.YtjnjalalkbamkaaGreatDoor.campaignReads
namespace Go.Proofs.YtjnjalalkbamkaaGreatDoor
open Go
set_option maxRecDepth 100000
theorem campaignReads_card : Rows.CampaignReadsCardSaid :=
 Claim7.holds_tied_plain_at .later [] _ _ _ _ campaignReads.said (fun _ h => by cases h) (by kernel_rfl) (fun _ h => by cases h) campaignReads_row_tie rfl ⟨rfl, rfl⟩ (by kernel_rfl) rfl campaignReads.plain (by kernel_rfl)
