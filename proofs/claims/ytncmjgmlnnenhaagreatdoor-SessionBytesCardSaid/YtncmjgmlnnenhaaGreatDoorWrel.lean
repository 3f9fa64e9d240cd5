/- Walks, printed by program: each theorem says what a function of the translation returns. -/
import Derived.Test.YtncmjgmlnnenhaaGreatDoorWkahn
import Derived.Test.YtncmjgmlnnenhaaGreatDoorWod
import Derived.Test.YtncmjgmlnnenhaaGreatDoorPtr
namespace Go.Proofs.YtncmjgmlnnenhaaGreatDoor
open Go Go.Lx Go.RowKit
set_option maxRecDepth 100000
set_option linter.unusedVariables false
set_option linter.unusedSimpArgs false
set_option linter.unnecessarySimpa false
theorem el_dir : ElT Tryz.prog 227 109 1 24 (.slice none 0 0) := ⟨Tryz.underlying227, ⟨Tryz.t109, by kernel_rfl, rfl, rfl, rfl⟩, rfl, by decide, by decide⟩
set_option maxHeartbeats 8000000 in
theorem orel_ok (po : Nat) (ap : Option Addr) (cp : Nat) (ps : List Pr) (sa : Option Addr) (sc : Nat) (srt : List (Fin 64)) (ρ : Fin 64 → Nat) (w : World) (ho : Box w po 201 [.int .i64 64, .slice ap ps.length cp, .slice none 0 0, .slice none 0 0, .slice sa srt.length sc]) (hps : Sl encPr 2 (fun g => g ≠ po) w ap cp ps) (hsr : Sl encF 1 (fun g => g ≠ po) w sa sc srt) (hT : Tb w) (hpo : po ≠ 0) (hn : ps.length ≤ 1000000) (ht : Topo ps srt) (hl : srt.length = 64) (hρ : ∀ x ∈ ps, ρ x.1 < ρ x.2) : Ok Tryz.prog 138 #[.pointer (some ⟨po, 0, none⟩)] w fun v w' => v = .tuple #[] ∧ ∃ (aa ab : Option Addr) (la lb : List SV), Box w' po 201 [.int .i64 64, .slice ap ps.length cp, .slice aa 64 64, .slice ab 64 64, .slice sa srt.length sc] ∧ Sl encSV 1 (Fsh w w') w' aa 64 la ∧ Sl encSV 1 (Fsh w w') w' ab 64 lb ∧ WdsAt (Fsh w w') w' la ∧ WdsAt (Fsh w w') w' lb ∧ la.length = 64 ∧ lb.length = 64 ∧ (BelS ps (xsO lb) ∧ AboS ps (xsO la)) ∧ Bel False (fun g => g = po) w w' := by
  replace hps := hps.mono (F' := fun g => g ≠ po ∧ g < w.heap.size) (fun g h1 h2 => ⟨h2, h1⟩)
  replace hsr := hsr.mono (F' := fun g => g ≠ po ∧ g < w.heap.size) (fun g h1 h2 => ⟨h2, h1⟩)
  have hol := ho.lt
  have hTl := hT.lt
  obtain ⟨n0, hn0⟩ : ∃ n, n = w.heap.size := ⟨_, rfl⟩
  refine Ok_of_WM 121 Tryz.func138 rfl rfl rfl ?_
  have hX : Bel False (fun g => g = po ∨ w.heap.size ≤ g) w w := Bel.refl _ _
  refine W_seq (W_region ?_)
  refine Rg_newB rfl (o_box (v := .pointer _) rfl) ?_
  intro b1 w1 x2 hge1 hb1
  have hlt1 := hb1.lt
  have z3 := Bel.size x2
  replace hX := Bel.ex hX x2
  replace ho := ho.ext x2
  replace hps := hps.ext x2
  replace hsr := hsr.ext x2
  replace hT := hT.ext x2
  refine Rg_nil (W_seq ?_)
  apply W_drawC (β := False) (fun b => if b = po then 3 else 0) [peqC _, peqC _, peqC _, peqC _, peqC _, peqC _, (postNew encSV 1 36 w1 64 (List.replicate 64 sz)), peqC _, peqC _, peqC _, peqC _, (fun v w c => ∃ a, v = .slice a 64 64 ∧ postOwn encSV 1 36 2 (List.replicate 64 sz) v w c), peqC _, peqC _, (postSt encSV 1 36 w1 64 (List.replicate 64 sz) po 3 201 (fun v => [.int .i64 64, .slice ap ps.length cp, v, .slice none 0 0, .slice sa srt.length sc]))] [0, 0, 0, 0, 0, 0, 0, 0, 0, 0, 0, 2, 0, 0, 3] 15 mixed (by kernel_rfl) (by kernel_rfl) rfl ⟨peqC_stable _ _, peqC_stable _ _, peqC_stable _ _, peqC_stable _ _, peqC_stable _ _, peqC_stable _ _, (postNew_stable), peqC_stable _ _, peqC_stable _ _, peqC_stable _ _, peqC_stable _ _, (postBs_stable), peqC_stable _ _, peqC_stable _ _, (postSt_stable), trivial⟩ ?ob1 ?fin1
  case ob1 =>
    refine OblC_cons (fun w4 c6 x5 hc07 hk8 => ?_) ?_
    · skip
      replace x5 := Bel.mono x5 (D' := fun g => g = po) (fun g hg h => Classical.byContradiction fun hn => h (by (try simp only [not_or] at hn); simp [hn]))
      have z9 := Bel.size x5
      have hb1 := hb1.keep x5 (fun h => by omega)
      refine bindC_nil ?_
      exact OpC_v rfl (o_load1 Tryz.isAgg142 rfl (hb1.at.get 0 rfl))
    refine OblC_cons (fun w10 c12 x11 hc013 hk14 => ?_) ?_
    · skip
      replace x11 := Bel.mono x11 (D' := fun g => g = po) (fun g hg h => Classical.byContradiction fun hn => h (by (try simp only [not_or] at hn); simp [hn]))
      have z15 := Bel.size x11
      have hb1 := hb1.keep x11 (fun h => by omega)
      refine bindC_nil ?_
      exact OpC_v rfl (o_load1 Tryz.isAgg142 rfl (hb1.at.get 0 rfl))
    refine OblC_cons (fun w16 c18 x17 hc019 hk20 => ?_) ?_
    · skip
      replace x17 := Bel.mono x17 (D' := fun g => g = po) (fun g hg h => Classical.byContradiction fun hn => h (by (try simp only [not_or] at hn); simp [hn]))
      have z21 := Bel.size x17
      have hb1 := hb1.keep x17 (fun h => by omega)
      refine bindC_nil ?_
      exact OpC_v rfl (o_load1 Tryz.isAgg142 rfl (hb1.at.get 0 rfl))
    refine OblC_cons (fun w22 c24 x23 hc025 hk26 => ?_) ?_
    · skip
      replace x23 := Bel.mono x23 (D' := fun g => g = po) (fun g hg h => Classical.byContradiction fun hn => h (by (try simp only [not_or] at hn); simp [hn]))
      have z27 := Bel.size x23
      refine bindC_eq (bindC_nil ?_)
      exact OpC_v rfl (o_nilc rfl)
    refine OblC_cons (fun w28 c30 x29 hc031 hk32 => ?_) ?_
    · skip
      replace x29 := Bel.mono x29 (D' := fun g => g = po) (fun g hg h => Classical.byContradiction fun hn => h (by (try simp only [not_or] at hn); simp [hn]))
      have z33 := Bel.size x29
      refine bindC_eq (bindC_nil ?_)
      exact OpC_v rfl (o_fa Tryz.underlying201 rfl Tryz.sizeOf3 rfl)
    refine OblC_cons (fun w34 c36 x35 hc037 hk38 => ?_) ?_
    · skip
      replace x35 := Bel.mono x35 (D' := fun g => g = po) (fun g hg h => Classical.byContradiction fun hn => h (by (try simp only [not_or] at hn); simp [hn]))
      have z39 := Bel.size x35
      have ho := ho.blk (hk38 3 (by decide) (by kernel_rfl) _ ho.lt (by first | (simp [colAt]; done) | (simp [colAt]; omega)))
      refine bindC_eq (bindC_nil ?_)
      exact OpC_v rfl (o_load1 Tryz.isAgg3 rfl (ho.at.get 0 rfl))
    refine OblC_cons (fun w40 c42 x41 hc043 hk44 => ?_) ?_
    · skip
      replace x41 := Bel.mono x41 (D' := fun g => g = po) (fun g hg h => Classical.byContradiction fun hn => h (by (try simp only [not_or] at hn); simp [hn]))
      have z45 := Bel.size x41
      refine bindC_eq (bindC_eq (bindC_nil ?_))
      exact OpC_new (m := 64) sz (Bel.size x41) encSV_ok el_set rfl rfl rfl (by decide)
    refine OblC_cons (fun w46 c48 x47 hc049 hk50 => ?_) ?_
    · skip
      replace x47 := Bel.mono x47 (D' := fun g => g = po) (fun g hg h => Classical.byContradiction fun hn => h (by (try simp only [not_or] at hn); simp [hn]))
      have z51 := Bel.size x47
      have hb1 := hb1.keep x47 (fun h => by omega)
      refine bindC_nil ?_
      exact OpC_v rfl (o_load1 Tryz.isAgg142 rfl (hb1.at.get 0 rfl))
    refine OblC_cons (fun w52 c54 x53 hc055 hk56 => ?_) ?_
    · skip
      replace x53 := Bel.mono x53 (D' := fun g => g = po) (fun g hg h => Classical.byContradiction fun hn => h (by (try simp only [not_or] at hn); simp [hn]))
      have z57 := Bel.size x53
      refine bindC_eq (bindC_nil ?_)
      exact OpC_v rfl (o_nilc rfl)
    refine OblC_cons (fun w58 c60 x59 hc061 hk62 => ?_) ?_
    · skip
      replace x59 := Bel.mono x59 (D' := fun g => g = po) (fun g hg h => Classical.byContradiction fun hn => h (by (try simp only [not_or] at hn); simp [hn]))
      have z63 := Bel.size x59
      refine bindC_eq (bindC_nil ?_)
      exact OpC_v rfl (o_fa Tryz.underlying201 rfl Tryz.sizeOf3 rfl)
    refine OblC_cons (fun w64 c66 x65 hc067 hk68 => ?_) ?_
    · skip
      replace x65 := Bel.mono x65 (D' := fun g => g = po) (fun g hg h => Classical.byContradiction fun hn => h (by (try simp only [not_or] at hn); simp [hn]))
      have z69 := Bel.size x65
      have ho := ho.blk (hk68 3 (by decide) (by kernel_rfl) _ ho.lt (by first | (simp [colAt]; done) | (simp [colAt]; omega)))
      refine bindC_eq (bindC_nil ?_)
      exact OpC_v rfl (o_load1 Tryz.isAgg3 rfl (ho.at.get 0 rfl))
    refine OblC_cons (fun w70 c72 x71 hc073 hk74 => ?_) ?_
    · skip
      replace x71 := Bel.mono x71 (D' := fun g => g = po) (fun g hg h => Classical.byContradiction fun hn => h (by (try simp only [not_or] at hn); simp [hn]))
      have z75 := Bel.size x71
      refine bindC_eq (bindC_eq (bindC_nil ?_))
      exact OpC_make (m := 64) sz encSV_ok el_set rfl rfl rfl (by decide)
    refine OblC_cons (fun w76 c78 x77 hc079 hk80 => ?_) ?_
    · skip
      replace x77 := Bel.mono x77 (D' := fun g => g = po) (fun g hg h => Classical.byContradiction fun hn => h (by (try simp only [not_or] at hn); simp [hn]))
      have z81 := Bel.size x77
      refine bindC_eq (bindC_eq (bindC_eq (bindC_eq (bindC_eq (bindC_eq ?_)))))
      refine bindC_mem (fun v16 hv16 => ?_)
      obtain ⟨y16, rfl, hny16, hcy16, howy16⟩ := hv16
      refine bindC_eq (bindC_nil ?_)
      exact OpC_v rfl (o_nilc rfl)
    refine OblC_cons (fun w82 c84 x83 hc085 hk86 => ?_) ?_
    · skip
      replace x83 := Bel.mono x83 (D' := fun g => g = po) (fun g hg h => Classical.byContradiction fun hn => h (by (try simp only [not_or] at hn); simp [hn]))
      have z87 := Bel.size x83
      refine bindC_eq (bindC_eq (bindC_eq (bindC_eq (bindC_eq (bindC_eq ?_)))))
      refine bindC_mem (fun v16 hv16 => ?_)
      obtain ⟨y16, rfl, hny16, hcy16, howy16⟩ := hv16
      refine bindC_eq (bindC_nil ?_)
      exact OpC_v rfl (o_fa Tryz.underlying201 rfl Tryz.sizeOf199 rfl)
    refine OblC_cons (fun w88 c90 x89 hc091 hk92 => ?_) ?_
    · skip
      replace x89 := Bel.mono x89 (D' := fun g => g = po) (fun g hg h => Classical.byContradiction fun hn => h (by (try simp only [not_or] at hn); simp [hn]))
      have z93 := Bel.size x89
      refine bindC_eq ?_
      refine bindC_mem (fun v16 hv16 => ?_)
      obtain ⟨y16, rfl, hny16, hcy16, howy16⟩ := hv16
      refine bindC_eq (bindC_eq (bindC_eq (bindC_eq (bindC_eq ?_))))
      refine bindC_mem (fun v16 hv16 => ?_)
      obtain ⟨y16, rfl, hny16, hcy16, howy16⟩ := hv16
      refine bindC_eq (bindC_nil ?_)
      exact OpC_storeNew (kc := 3) (w0 := w1) (f := fun v => [.int .i64 64, .slice ap ps.length cp, v, .slice none 0 0, .slice sa srt.length sc]) (by decide) Tryz.sizeOf199 rfl rfl (ho.blk (hk92 3 (by decide) (by kernel_rfl) _ ho.lt (by first | (simp [colAt]; done) | (simp [colAt]; omega)))) ((hc091 po ho.lt).trans (by first | (simp [colAt]; done) | (simp [colAt]; omega))) rfl hny16 hcy16 howy16 (by decide) rfl
    exact OblC_nil
  case fin1 =>
    intro w94 c96 x95 hc097
    replace x95 := Bel.mono x95 (D' := fun g => g = po) (fun g hg h => Classical.byContradiction fun hn => h (by (try simp only [not_or] at hn); simp [hn]))
    have z98 := Bel.size x95
    replace hX := Bel.out hX x95 (fun g h1 h2 => by first | exact h2 | omega)
    replace hps := hps.keep x95 (fun g h1 h2 h3 => by omega)
    replace hsr := hsr.keep x95 (fun g h1 h2 h3 => by omega)
    replace hT := hT.keep x95 (fun h => by omega)
    replace hb1 := hb1.keep x95 (fun h => by omega)
    refine bindC_eq (bindC_eq (bindC_eq (bindC_eq (bindC_eq (bindC_eq ?_)))))
    refine bindC_mem (fun v16 hv16 => ?_)
    obtain ⟨y16, rfl, hny16, hcy16, howy16⟩ := hv16
    refine bindC_eq (bindC_eq (bindC_eq (bindC_eq ?_)))
    refine bindC_mem (fun v21 hv21 => ?_)
    obtain ⟨a21, rfl, hA21⟩ := hv21
    refine bindC_eq (bindC_eq ?_)
    refine bindC_lk rfl (fun hst14 => ?_)
    refine bindC_nil ?_
    obtain ⟨g21, rfl, hc21, hl21, hown21⟩ := Own.block hA21 (by decide)
    have hn21 : w1.heap.size ≤ g21 := Nat.le_of_not_lt (fun q => by have h := hc097 g21 q; rw [hc21] at h; by_cases e : g21 = po <;> simp [e] at h)
    obtain ⟨g16, ⟨ho, hcpo⟩, hn16, hc16, hown16⟩ := hst14
    have hl16 : g16 < w94.heap.size := hown16.lt g16 rfl
    have h1621 : g16 ≠ g21 := fun e => by rw [e, hc21] at hc16; cases hc16
    refine Rg_run rfl (o_nilc rfl) ?_
    refine Rg_run rfl (o_fa Tryz.underlying201 rfl Tryz.sizeOf199 rfl) ?_
    refine Rg_store (v := .slice _ _ _) rfl Tryz.sizeOf199 rfl rfl ho rfl rfl rfl ?_
    intro w99 c100 ho
    have z101 := Bel.size c100
    replace hX := Bel.out hX c100 (fun g h1 h2 => by first | exact h2 | omega)
    replace hps := hps.keep c100 (fun g h1 h2 h3 => by omega)
    replace hsr := hsr.keep c100 (fun g h1 h2 h3 => by omega)
    replace hT := hT.keep c100 (fun h => by omega)
    replace hb1 := hb1.keep c100 (fun h => by omega)
    replace hown21 := hown21.keepD c100 (fun g h1 h2 h3 => by omega)
    replace hown16 := hown16.keepD c100 (fun g h1 h2 h3 => by omega)
    refine Rg_nil (W_seq (W_region ?_))
    refine Rg_run rfl (o_load1 Tryz.isAgg142 rfl (hb1.at.get 0 rfl)) ?_
    refine Rg_run rfl (o_nilc rfl) ?_
    refine Rg_run rfl (o_fa Tryz.underlying201 rfl Tryz.sizeOf3 rfl) ?_
    refine Rg_run rfl (o_load1 Tryz.isAgg3 rfl (ho.at.get 0 rfl)) ?_
    refine Rg_make (m := 64) dz rfl encDV_ok el_dir rfl rfl rfl (by decide) ?_
    intro a30 w102 x103 hown30
    have z104 := Bel.size x103
    replace hX := Bel.ex hX x103
    replace hps := hps.ext x103
    replace hsr := hsr.ext x103
    replace hT := hT.ext x103
    replace hb1 := hb1.ext x103
    replace hown21 := hown21.ext x103
    replace ho := ho.ext x103
    replace hown16 := hown16.ext x103
    obtain ⟨g30, ha30, hn30, hl30, hD30⟩ := hown30.block (by decide)
    subst ha30
    clear hown30
    have hown30 := hD30
    obtain ⟨n2, hn2⟩ : ∃ n, n = w102.heap.size := ⟨_, rfl⟩
    refine Rg_run rfl (o_assignh (v := .slice _ _ _) rfl) ?_
    refine Rg_nil (W_seq (W_seq (W_region ?_)))
    refine Rg_run rfl (o_load1 Tryz.isAgg142 rfl (hb1.at.get 0 rfl)) ?_
    refine Rg_run rfl (o_nilc rfl) ?_
    refine Rg_run rfl (o_fa Tryz.underlying201 rfl Tryz.sizeOf66 rfl) ?_
    refine Rg_run rfl (o_load1 Tryz.isAgg66 rfl (ho.at.get 1 rfl)) ?_
    refine Rg_run rfl (o_llen Tryz.underlying66 rfl) ?_
    refine Rg_run rfl o_movec ?_
    refine Rg_nil (W_block ?_)
    refine W_for (α := Nat) [(4, 4), (36, 53)] (fun k => [(36, .int .i64 (k : Int))]) (fun k w' => (k ≤ ps.length) ∧ Bel False (fun g => g = g30 ∨ n2 ≤ g) w102 w' ∧ (∃ ds : List DV, ds.length = 64 ∧ (∀ b : Fin 64, (ds.getD b.val dz).l = dlO (ps.take k) b) ∧ Own encDV 1 109 (fun g => g = g30) w' (.slice (some ⟨g30, 0, none⟩) 64 64) ds ∧ DirO 3 (fun g => n2 ≤ g) w' ds)) (fun k => ps.length - k) 0 ⟨rfl, trivial⟩ ⟨Nat.zero_le _, Bel.refl _ _, ⟨_, by simp, ds_start ps, hown30, DirO.start⟩⟩ ?_
    rintro k fb107 w106 ⟨hk, hXL105, ⟨ds, hdl, hds, hown30, hD⟩⟩
    have z108 := Bel.size hXL105
    replace hX := Bel.out hX hXL105 (fun g h1 h2 => by first | exact h2 | omega)
    replace hps := hps.keep hXL105 (fun g h1 h2 h3 => by omega)
    replace hsr := hsr.keep hXL105 (fun g h1 h2 h3 => by omega)
    replace hT := hT.keep hXL105 (fun h => by omega)
    replace hb1 := hb1.keep hXL105 (fun h => by omega)
    replace hown21 := hown21.keepD hXL105 (fun g h1 h2 h3 => by omega)
    replace ho := ho.keep hXL105 (fun h => by omega)
    replace hown16 := hown16.keepD hXL105 (fun g h1 h2 h3 => by omega)
    refine W_seq (W_region ?_)
    refine Rg_run rfl (o_lss rfl rfl) ?_
    refine Rg_nil (W_seq ?_)
    refine W_cond rfl (fun hc1 => ?_) (fun hc1 => ?_)
    · skip
      replace hc1 := of_decide_eq_true hc1
      refine W_skip (W_seq (W_block (W_seq (W_region ?_))))
      refine Rg_run rfl (o_iaR Tryz.underlying66 Tryz.sizeOf127 hps rfl rfl (by first | omega | (unfold I64; omega) | (simp; done) | (simp; omega) | (simp at *; omega))) ?_
      refine Rg_run rfl (o_ldRS Tryz.isAgg127 Tryz.sizeOf127 hps rfl (getE pz0 (by omega))) ?_
      refine Rg_alst rfl rfl Tryz.zeroValue127 rfl Tryz.sizeOf127 (fun _ => rfl) rfl rfl ?_
      intro b4 w109 x110 hge4 hb4
      have hlt4 := hb4.lt
      change Box _ _ _ (encPr _) at hb4
      have z111 := Bel.size x110
      replace hX := Bel.ex hX x110
      replace hXL105 := Bel.ex hXL105 x110
      replace hown30 := hown30.ext x110
      replace hD := hD.ext x110
      refine Rg_nil ?_
      have hxl : (ps.getD k pz0).2.val < ds.length := by have := (ps.getD k pz0).2.isLt; omega
      have hO := (hD _ _ (getE dz hxl)).1
      have hll : (ds.getD (ps.getD k pz0).2.val dz).l.length ≤ ps.length := by rw [hds (ps.getD k pz0).2]; exact dl_len _ _ _
      obtain ⟨n5, hn5⟩ : ∃ n, n = w109.heap.size := ⟨_, rfl⟩
      apply W_drawC (β := False) (fun b => if (ds.getD (ps.getD k pz0).2.val dz).v.ownBlock = some b then 1 else 0) [peqC _, peqC _, peqC _, peqC _, peqC _, peqC _, peqC _, peqC _, peqC _, peqC _, (fun v w c => ∃ a, v = .slice a 1 1 ∧ postOwn encF 1 3 2 [(ps.getD k pz0).1] v w c), (postOwn encF 1 3 1 ((ds.getD (ps.getD k pz0).2.val dz).l ++ [(ps.getD k pz0).1]))] [0, 0, 0, 0, 0, 0, 0, 0, 0, 0, 2, 1] 12 mixed (by kernel_rfl) (by kernel_rfl) rfl ⟨peqC_stable _ _, peqC_stable _ _, peqC_stable _ _, peqC_stable _ _, peqC_stable _ _, peqC_stable _ _, peqC_stable _ _, peqC_stable _ _, peqC_stable _ _, peqC_stable _ _, (postBs_stable), (postOwn_stable), trivial⟩ ?ob6 ?fin6
      case ob6 =>
        refine OblC_cons (fun w112 c114 x113 hc0115 hk116 => ?_) ?_
        · skip
          replace x113 := Bel.mono x113 (D' := fun g => n2 ≤ g ∧ g ≠ b4) (fun g hg h => (by have h1 := Classical.byContradiction (p := (ds.getD (ps.getD k pz0).2.val dz).v.ownBlock = some g) (fun hn => h (if_neg hn)); exact ⟨hO.loc g h1, hO.notBox hb4 (by decide) g h1⟩))
          have z117 := Bel.size x113
          refine bindC_nil ?_
          exact OpC_v rfl (o_moveh (v := .slice _ _ _) rfl)
        refine OblC_cons (fun w118 c120 x119 hc0121 hk122 => ?_) ?_
        · skip
          replace x119 := Bel.mono x119 (D' := fun g => n2 ≤ g ∧ g ≠ b4) (fun g hg h => (by have h1 := Classical.byContradiction (p := (ds.getD (ps.getD k pz0).2.val dz).v.ownBlock = some g) (fun hn => h (if_neg hn)); exact ⟨hO.loc g h1, hO.notBox hb4 (by decide) g h1⟩))
          have z123 := Bel.size x119
          refine bindC_nil ?_
          exact OpC_v rfl (o_iaA (i := 1) Tryz.underlying127 Tryz.sizeOf3 rfl rfl (by decide))
        refine OblC_cons (fun w124 c126 x125 hc0127 hk128 => ?_) ?_
        · skip
          replace x125 := Bel.mono x125 (D' := fun g => n2 ≤ g ∧ g ≠ b4) (fun g hg h => (by have h1 := Classical.byContradiction (p := (ds.getD (ps.getD k pz0).2.val dz).v.ownBlock = some g) (fun hn => h (if_neg hn)); exact ⟨hO.loc g h1, hO.notBox hb4 (by decide) g h1⟩))
          have z129 := Bel.size x125
          have hb4 := hb4.keep x125 (fun h => by omega)
          refine bindC_eq (bindC_nil ?_)
          exact OpC_v rfl (o_load1 Tryz.isAgg3 rfl (hb4.at.get 1 rfl))
        refine OblC_cons (fun w130 c132 x131 hc0133 hk134 => ?_) ?_
        · skip
          replace x131 := Bel.mono x131 (D' := fun g => n2 ≤ g ∧ g ≠ b4) (fun g hg h => (by have h1 := Classical.byContradiction (p := (ds.getD (ps.getD k pz0).2.val dz).v.ownBlock = some g) (fun hn => h (if_neg hn)); exact ⟨hO.loc g h1, hO.notBox hb4 (by decide) g h1⟩))
          have z135 := Bel.size x131
          refine bindC_nil ?_
          exact OpC_v rfl (o_moveh (v := .slice _ _ _) rfl)
        refine OblC_cons (fun w136 c138 x137 hc0139 hk140 => ?_) ?_
        · skip
          replace x137 := Bel.mono x137 (D' := fun g => n2 ≤ g ∧ g ≠ b4) (fun g hg h => (by have h1 := Classical.byContradiction (p := (ds.getD (ps.getD k pz0).2.val dz).v.ownBlock = some g) (fun hn => h (if_neg hn)); exact ⟨hO.loc g h1, hO.notBox hb4 (by decide) g h1⟩))
          have z141 := Bel.size x137
          refine bindC_nil ?_
          exact OpC_v rfl (o_iaA (i := 1) Tryz.underlying127 Tryz.sizeOf3 rfl rfl (by decide))
        refine OblC_cons (fun w142 c144 x143 hc0145 hk146 => ?_) ?_
        · skip
          replace x143 := Bel.mono x143 (D' := fun g => n2 ≤ g ∧ g ≠ b4) (fun g hg h => (by have h1 := Classical.byContradiction (p := (ds.getD (ps.getD k pz0).2.val dz).v.ownBlock = some g) (fun hn => h (if_neg hn)); exact ⟨hO.loc g h1, hO.notBox hb4 (by decide) g h1⟩))
          have z147 := Bel.size x143
          have hb4 := hb4.keep x143 (fun h => by omega)
          refine bindC_eq (bindC_nil ?_)
          exact OpC_v rfl (o_load1 Tryz.isAgg3 rfl (hb4.at.get 1 rfl))
        refine OblC_cons (fun w148 c150 x149 hc0151 hk152 => ?_) ?_
        · skip
          replace x149 := Bel.mono x149 (D' := fun g => n2 ≤ g ∧ g ≠ b4) (fun g hg h => (by have h1 := Classical.byContradiction (p := (ds.getD (ps.getD k pz0).2.val dz).v.ownBlock = some g) (fun hn => h (if_neg hn)); exact ⟨hO.loc g h1, hO.notBox hb4 (by decide) g h1⟩))
          have z153 := Bel.size x149
          have hown30 := hown30.keepD x149 (fun g h1 h2 h3 => by omega)
          refine bindC_eq (bindC_eq (bindC_nil ?_))
          exact OpC_v rfl (o_iaO (i := (ps.getD k pz0).2.val) Tryz.underlying227 Tryz.sizeOf109 hown30 rfl rfl (by omega))
        refine OblC_cons (fun w154 c156 x155 hc0157 hk158 => ?_) ?_
        · skip
          replace x155 := Bel.mono x155 (D' := fun g => n2 ≤ g ∧ g ≠ b4) (fun g hg h => (by have h1 := Classical.byContradiction (p := (ds.getD (ps.getD k pz0).2.val dz).v.ownBlock = some g) (fun hn => h (if_neg hn)); exact ⟨hO.loc g h1, hO.notBox hb4 (by decide) g h1⟩))
          have z159 := Bel.size x155
          have hown30 := hown30.keepD x155 (fun g h1 h2 h3 => by omega)
          refine bindC_eq (bindC_nil ?_)
          exact OpC_v rfl (o_ldR Tryz.isAgg109 (hown30.slA encDV_ok) rfl rfl (getE dz hxl) rfl)
        refine OblC_cons (fun w160 c162 x161 hc0163 hk164 => ?_) ?_
        · skip
          replace x161 := Bel.mono x161 (D' := fun g => n2 ≤ g ∧ g ≠ b4) (fun g hg h => (by have h1 := Classical.byContradiction (p := (ds.getD (ps.getD k pz0).2.val dz).v.ownBlock = some g) (fun hn => h (if_neg hn)); exact ⟨hO.loc g h1, hO.notBox hb4 (by decide) g h1⟩))
          have z165 := Bel.size x161
          refine bindC_nil ?_
          exact OpC_v rfl (o_iaA (i := 0) Tryz.underlying127 Tryz.sizeOf3 rfl rfl (by decide))
        refine OblC_cons (fun w166 c168 x167 hc0169 hk170 => ?_) ?_
        · skip
          replace x167 := Bel.mono x167 (D' := fun g => n2 ≤ g ∧ g ≠ b4) (fun g hg h => (by have h1 := Classical.byContradiction (p := (ds.getD (ps.getD k pz0).2.val dz).v.ownBlock = some g) (fun hn => h (if_neg hn)); exact ⟨hO.loc g h1, hO.notBox hb4 (by decide) g h1⟩))
          have z171 := Bel.size x167
          have hb4 := hb4.keep x167 (fun h => by omega)
          refine bindC_eq (bindC_nil ?_)
          exact OpC_v rfl (o_load1 Tryz.isAgg3 rfl (hb4.at.get 0 rfl))
        refine OblC_cons (fun w172 c174 x173 hc0175 hk176 => ?_) ?_
        · skip
          replace x173 := Bel.mono x173 (D' := fun g => n2 ≤ g ∧ g ≠ b4) (fun g hg h => (by have h1 := Classical.byContradiction (p := (ds.getD (ps.getD k pz0).2.val dz).v.ownBlock = some g) (fun hn => h (if_neg hn)); exact ⟨hO.loc g h1, hO.notBox hb4 (by decide) g h1⟩))
          have z177 := Bel.size x173
          refine bindC_eq (bindC_nil ?_)
          exact OpC_bs (vs := [.int _ _]) [(ps.getD k pz0).1] encF_ok el_int rfl rfl ⟨rfl, trivial⟩ rfl rfl rfl rfl
        refine OblC_cons (fun w178 c180 x179 hc0181 hk182 => ?_) ?_
        · skip
          replace x179 := Bel.mono x179 (D' := fun g => n2 ≤ g ∧ g ≠ b4) (fun g hg h => (by have h1 := Classical.byContradiction (p := (ds.getD (ps.getD k pz0).2.val dz).v.ownBlock = some g) (fun hn => h (if_neg hn)); exact ⟨hO.loc g h1, hO.notBox hb4 (by decide) g h1⟩))
          have z183 := Bel.size x179
          refine bindC_eq ?_
          refine bindC_mem (fun v50 hv50 => ?_)
          refine bindC_nil ?_
          obtain ⟨a50, rfl, ho50⟩ := hv50
          exact OpC_app (by decide) encF_ok el_int rfl rfl (Own.blk hO (fun g hg hl => hk182 1 (by decide) (by kernel_rfl) g hg (if_pos hl)) (fun g hg hl => (hc0181 g hg).trans (if_pos hl))) (Own.slA ho50 encF_ok) rfl (by have := hll; show ((ds.getD (ps.getD k pz0).2.val dz).l.length + 1) * 8 ≤ 140737488355328; omega)
        exact OblC_nil
      case fin6 =>
        intro w184 c186 x185 hc0187
        have xO := x185.mono (D' := fun g => (ds.getD (ps.getD k pz0).2.val dz).v.ownBlock = some g) (fun g hg h => Classical.byContradiction fun hn => h (if_neg hn))
        replace x185 := Bel.mono x185 (D' := fun g => n2 ≤ g ∧ g ≠ b4) (fun g hg h => (by have h1 := Classical.byContradiction (p := (ds.getD (ps.getD k pz0).2.val dz).v.ownBlock = some g) (fun hn => h (if_neg hn)); exact ⟨hO.loc g h1, hO.notBox hb4 (by decide) g h1⟩))
        have z188 := Bel.size x185
        replace hX := Bel.out hX x185 (fun g h1 h2 => by first | exact h2 | omega)
        replace hXL105 := Bel.out hXL105 x185 (fun g h1 h2 => by first | exact h2 | omega)
        replace hown30 := hown30.keepD x185 (fun g h1 h2 h3 => by omega)
        refine bindC_eq (bindC_eq (bindC_eq (bindC_eq (bindC_eq (bindC_eq (bindC_eq (bindC_eq (bindC_eq ?_))))))))
        refine bindC_eq ?_
        refine bindC_mem (fun v50 hv50 => ?_)
        refine bindC_mem (fun v51 hv51 => ?_)
        refine bindC_nil ?_
        change Own _ _ _ _ _ _ _ at hv51
        obtain ⟨a51, c51, hv51e, -⟩ := Own.sl hv51 encF_ok
        subst hv51e
        replace hv51 := Own.mono hv51 (D' := fun g => (ds.getD (ps.getD k pz0).2.val dz).v.ownBlock = some g ∨ n5 ≤ g) (fun g h1 h2 => (Nat.lt_or_ge g n5).elim (fun q => Or.inl (Classical.byContradiction fun hn => by have h := hc0187 g (by omega); rw [h2] at h; exact absurd (h.trans (if_neg hn)) (by decide))) Or.inr)
        have hD2 := DirO.set (d' := ⟨a51, c51, (ds.getD (ps.getD k pz0).2.val dz).l ++ [(ps.getD k pz0).1]⟩) hD (getE dz hxl) (fun g h => by omega) (xO.mono (fun g _ h => Or.inl h)) (by rw [← hn5]; exact hv51)
        refine Rg_run rfl (o_iaO (i := (ps.getD k pz0).2.val) Tryz.underlying227 Tryz.sizeOf109 hown30 rfl rfl (by omega)) ?_
        refine Rg_elst (u := ⟨a51, c51, (ds.getD (ps.getD k pz0).2.val dz).l ++ [(ps.getD k pz0).1]⟩) rfl encDV_ok Tryz.sizeOf109 rfl rfl rfl hown30 hxl ?_
        intro w189 x190 hown30
        have z191 := Bel.size x190
        replace hX := Bel.out hX x190 (fun g h1 h2 => by first | exact h2 | omega)
        replace hXL105 := Bel.out hXL105 x190 (fun g h1 h2 => by first | exact h2 | omega)
        replace hD2 := hD2.keep x190 (fun g h1 h2 h3 => by omega)
        refine Rg_nil (W_region ?_)
        refine Rg_run rfl (o_add rfl rfl (by first | omega | (unfold I64; omega) | (simp; done) | (simp; omega) | (simp at *; omega))) ?_
        refine Rg_run rfl (o_moveh (v := .int _ _) rfl) ?_
        refine Rg_nil ?_
        refine ⟨k + 1, ⟨?_, trivial⟩, ?_, ⟨?_, hXL105, ?_⟩, ?_⟩
        · first | rfl | (go_num) | (exact congrArg _ (by omega))
        · repeat (first | exact off_refl _ _ | exact off_mix | refine off_put rfl ?_ | refine off_putN ?_ | refine off_setL rfl ?_ | refine off_mix' rfl ?_)
        · show k + 1 ≤ ps.length; omega
        · exact ⟨_, by simp [hdl], ds_set (by omega) hdl hds a51 c51, hown30, hD2⟩
        · omega
    replace hc1 := of_decide_eq_false hc1
    refine W_exit (exAt_hit (W_seq (W_region ?_)))
    obtain ⟨n3, hn3⟩ : ∃ n, n = w106.heap.size := ⟨_, rfl⟩
    replace hD := hD.mono (D' := fun g => n2 ≤ g ∧ g < n3) (fun g h1 h2 => ⟨h2, by omega⟩)
    rw [show k = ps.length by omega, List.take_length] at hds
    refine Rg_run rfl (o_load1 Tryz.isAgg142 rfl (hb1.at.get 0 rfl)) ?_
    refine Rg_run rfl (o_nilc rfl) ?_
    refine Rg_run rfl (o_fa Tryz.underlying201 rfl Tryz.sizeOf109 rfl) ?_
    refine Rg_run rfl (o_load1 Tryz.isAgg109 rfl (ho.at.get 4 rfl)) ?_
    refine Rg_run rfl (o_llen Tryz.underlying109 rfl) ?_
    refine Rg_run rfl o_movec ?_
    refine Rg_nil (W_block ?_)
    refine W_forD (α := Nat × List SV × List SV × List Nat) [(6, 6), (8, 8), (59, 103), (120, 120)] (fun q => [(59, .int .i64 (q.1 : Int))]) (fun q => q.2.2.2) (fun q w' => (q.1 ≤ 64 ∧ q.2.1.length = 64 ∧ q.2.2.1.length = 64 ∧ AbOk ps srt q.1 (xsO q.2.1) ∧ BeOk ps srt q.1 (xsO q.2.2.1) ∧ ∀ b, b ∈ q.2.2.2 → n3 ≤ b) ∧ Bel False (fun g => g = g16 ∨ g = g21 ∨ n3 ≤ g) w106 w' ∧ (Own encSV 1 36 (fun g => g = g16) w' (.slice (some ⟨g16, 0, none⟩) 64 64) q.2.1 ∧ Own encSV 1 36 (fun g => g = g21) w' (.slice (some ⟨g21, 0, none⟩) 64 64) q.2.2.1 ∧ WdsAt (fun g => n3 ≤ g) w' q.2.1 ∧ WdsAt (fun g => n3 ≤ g) w' q.2.2.1 ∧ Mks w' q.2.2.2)) (fun q => 64 - q.1) (0, List.replicate 64 sz, List.replicate 64 sz, []) ⟨rfl, trivial⟩ rfl ⟨⟨by decide, by simp, by simp, AbOk.start (fun i h => xs_rep), BeOk.start (fun i h => xs_rep), by simp⟩, Bel.refl _ _, ⟨hown16, hown21, wds_rep, wds_rep, trivial⟩⟩ ?_
    rintro ⟨j, la, lb, ms⟩ fb194 w193 ⟨⟨hj, hla, hlb, hab, hbe, hms⟩, hXL192, ⟨hown16, hown21, hwa, hwb, hmk⟩⟩
    dsimp only at *
    have z195 := Bel.size hXL192
    replace hX := Bel.out hX hXL192 (fun g h1 h2 => by first | exact h2 | omega)
    replace hsr := hsr.keep hXL192 (fun g h1 h2 h3 => by omega)
    replace hT := hT.keep hXL192 (fun h => by omega)
    replace hb1 := hb1.keep hXL192 (fun h => by omega)
    replace ho := ho.keep hXL192 (fun h => by omega)
    replace hown30 := hown30.keepD hXL192 (fun g h1 h2 h3 => by omega)
    replace hD := hD.keep hXL192 (fun g h1 h2 h3 => by omega)
    refine W_seq (W_region ?_)
    refine Rg_run rfl (o_lss rfl rfl) ?_
    refine Rg_nil (W_seq ?_)
    refine W_cond rfl (fun hc2 => ?_) (fun hc2 => ?_)
    · skip
      replace hc2 := of_decide_eq_true hc2
      refine W_skip (W_seq (W_block (W_seq (W_region ?_))))
      obtain ⟨b, hb⟩ : ∃ b, srt[j]? = some b := ⟨_, List.getElem?_eq_getElem (by omega)⟩
      have hbl := b.isLt
      refine Rg_run rfl (o_iaR Tryz.underlying109 Tryz.sizeOf3 hsr rfl rfl (by first | omega | (unfold I64; omega) | (simp; done) | (simp; omega) | (simp at *; omega))) ?_
      refine Rg_run rfl (o_ldR Tryz.isAgg3 hsr rfl rfl hb rfl) ?_
      refine Rg_alst rfl rfl Tryz.zeroValue3 rfl Tryz.sizeOf3 (fun _ => rfl) rfl rfl ?_
      intro b6 w196 x197 hge6 hb6
      have hlt6 := hb6.lt
      have z198 := Bel.size x197
      replace hX := Bel.ex hX x197
      replace hXL192 := Bel.ex hXL192 x197
      replace hT := hT.ext x197
      replace hb1 := hb1.ext x197
      replace ho := ho.ext x197
      replace hown30 := hown30.ext x197
      replace hD := hD.ext x197
      replace hown16 := hown16.ext x197
      replace hown21 := hown21.ext x197
      replace hwa := hwa.ext x197
      replace hwb := hwb.ext x197
      replace hmk := Mks.ext hmk x197
      refine Rg_nil (W_seq (W_seq (W_region ?_)))
      refine Rg_run rfl (o_moveh (v := .slice _ _ _) rfl) ?_
      refine Rg_run rfl (o_load1 Tryz.isAgg3 rfl (hb6.at.get 0 rfl)) ?_
      refine Rg_run rfl (o_iaO (i := b.val) Tryz.underlying227 Tryz.sizeOf109 hown30 rfl rfl (by omega)) ?_
      refine Rg_run rfl (o_ldR Tryz.isAgg109 (hown30.slA encDV_ok) rfl rfl (getE dz (by omega)) rfl) ?_
      have hdb := Own.slA (hD _ _ (getE dz (show b.val < ds.length by omega))).1 encF_ok
      have hlb2 : (ds.getD b.val dz).l.length = (dlO ps b).length := by rw [hds b]
      refine Rg_run rfl (o_llen Tryz.underlying109 rfl) ?_
      refine Rg_run rfl o_movec ?_
      refine Rg_nil (W_block ?_)
      refine W_for (α := Nat × List SV) [(8, 8), (68, 95)] (fun p => [(68, .int .i64 (p.1 : Int))]) (fun p w' => (p.1 ≤ (dlO ps b).length ∧ p.2.length = 64 ∧ xsO p.2 b.val = upA ps (xsO la) b p.1 ∧ ∀ i, i ≠ b.val → xsO p.2 i = xsO la i) ∧ Bel False (fun g => g = g16) w196 w' ∧ (Own encSV 1 36 (fun g => g = g16) w' (.slice (some ⟨g16, 0, none⟩) 64 64) p.2 ∧ WdsAt (fun g => n3 ≤ g) w' p.2)) (fun p => (dlO ps b).length - p.1) (0, la) ⟨rfl, trivial⟩ ⟨⟨Nat.zero_le _, hla, (upA_zero _ _ _).symm, fun _ _ => rfl⟩, Bel.refl _ _, ⟨hown16, hwa⟩⟩ ?_
      rintro ⟨m, la2⟩ fb201 w200 ⟨⟨hm, hla2, hup, hoth⟩, hXL199, ⟨hown16, hwa⟩⟩
      dsimp only at *
      have z202 := Bel.size hXL199
      replace hX := Bel.out hX hXL199 (fun g h1 h2 => by first | exact h2 | omega)
      replace hXL192 := Bel.out hXL192 hXL199 (fun g h1 h2 => by first | exact h2 | omega)
      replace hT := hT.keep hXL199 (fun h => by omega)
      replace hb1 := hb1.keep hXL199 (fun h => by omega)
      replace ho := ho.keep hXL199 (fun h => by omega)
      replace hD := hD.keep hXL199 (fun g h1 h2 h3 => by omega)
      replace hown21 := hown21.keepD hXL199 (fun g h1 h2 h3 => by omega)
      replace hwb := hwb.keep hXL199 (fun g h1 h2 h3 => by omega)
      replace hmk := hmk.kp hXL199 (fun g h1 h2 => by have := hms g h1; first | omega | (have := hmlt g h1; omega))
      replace hb6 := hb6.keep hXL199 (fun h => by omega)
      refine W_seq (W_region ?_)
      refine Rg_run rfl (o_lss rfl rfl) ?_
      refine Rg_nil (W_seq ?_)
      refine W_cond rfl (fun hc3 => ?_) (fun hc3 => ?_)
      · skip
        replace hc3 := of_decide_eq_true hc3
        refine W_skip (W_seq (W_block (W_seq (W_region ?_))))
        obtain ⟨a, ha0⟩ : ∃ a, (dlO ps b)[m]? = some a := ⟨_, List.getElem?_eq_getElem (by omega)⟩
        have ha : (ds.getD b.val dz).l[m]? = some a := by rw [hds b]; exact ha0
        have hal := a.isLt
        have hne : a.val ≠ b.val := fun e => by have := hρ _ (mem_dl.1 (List.mem_of_getElem? ha0)); rw [show a = b from Fin.ext e] at this; exact Nat.lt_irrefl _ this
        refine Rg_run rfl (o_iaR Tryz.underlying109 Tryz.sizeOf3 (Own.slA (hD _ _ (getE dz (show b.val < ds.length by omega))).1 encF_ok) rfl rfl (by first | omega | (unfold I64; omega) | (simp; done) | (simp; omega) | (simp at *; omega))) ?_
        refine Rg_run rfl (o_ldR Tryz.isAgg3 (Own.slA (hD _ _ (getE dz (show b.val < ds.length by omega))).1 encF_ok) rfl rfl ha rfl) ?_
        refine Rg_run rfl (o_assignh (v := .int _ _) rfl) ?_
        refine Rg_nil ?_
        apply W_draw (β := False) [peq _, peq _, peq _, peq _, peq _, peq _, peq _, peq _, peq _, peq _, peq _, peq _, peq _, peq _, peq _, peq _, peq _, peq _, peq _, (postSV (fun g => n3 ≤ g) ((la2.getD b.val sz).x ||| (la2.getD a.val sz).x)), peq _, (postSV (fun g => n3 ≤ g) (((la2.getD b.val sz).x ||| (la2.getD a.val sz).x) ||| oneW a.val)), peq _] 23 mixed (by kernel_rfl) rfl ⟨peq_stable _, peq_stable _, peq_stable _, peq_stable _, peq_stable _, peq_stable _, peq_stable _, peq_stable _, peq_stable _, peq_stable _, peq_stable _, peq_stable _, peq_stable _, peq_stable _, peq_stable _, peq_stable _, peq_stable _, peq_stable _, peq_stable _, (postSV_stable _ _), peq_stable _, (postSV_stable _ _), peq_stable _, trivial⟩ ?ob14 ?fin14
        case ob14 =>
          refine OblL_cons (fun w203 x204 => ?_) ?_
          · skip
            have z205 := Bel.size x204
            have hb1 := hb1.ext x204
            have hmk := Mks.ext hmk x204
            refine bindP_nil ?_
            exact OpS_v rfl (o_load1 Tryz.isAgg142 rfl (hb1.at.get 0 rfl))
          refine OblL_cons (fun w206 x207 => ?_) ?_
          · skip
            have z208 := Bel.size x207
            have hmk := Mks.ext hmk x207
            refine bindP_eq (bindP_nil ?_)
            exact OpS_v rfl (o_nilc rfl)
          refine OblL_cons (fun w209 x210 => ?_) ?_
          · skip
            have z211 := Bel.size x210
            have hmk := Mks.ext hmk x210
            refine bindP_eq (bindP_nil ?_)
            exact OpS_v rfl (o_fa Tryz.underlying201 rfl Tryz.sizeOf199 rfl)
          refine OblL_cons (fun w212 x213 => ?_) ?_
          · skip
            have z214 := Bel.size x213
            have ho := ho.ext x213
            have hmk := Mks.ext hmk x213
            refine bindP_eq (bindP_nil ?_)
            exact OpS_v rfl (o_load1 Tryz.isAgg199 rfl (ho.at.get 2 rfl))
          refine OblL_cons (fun w215 x216 => ?_) ?_
          · skip
            have z217 := Bel.size x216
            have hmk := Mks.ext hmk x216
            have hb6 := hb6.ext x216
            refine bindP_nil ?_
            exact OpS_v rfl (o_load1 Tryz.isAgg3 rfl (hb6.at.get 0 rfl))
          refine OblL_cons (fun w218 x219 => ?_) ?_
          · skip
            have z220 := Bel.size x219
            have hb1 := hb1.ext x219
            have hmk := Mks.ext hmk x219
            refine bindP_nil ?_
            exact OpS_v rfl (o_load1 Tryz.isAgg142 rfl (hb1.at.get 0 rfl))
          refine OblL_cons (fun w221 x222 => ?_) ?_
          · skip
            have z223 := Bel.size x222
            have hmk := Mks.ext hmk x222
            refine bindP_eq (bindP_nil ?_)
            exact OpS_v rfl (o_nilc rfl)
          refine OblL_cons (fun w224 x225 => ?_) ?_
          · skip
            have z226 := Bel.size x225
            have hmk := Mks.ext hmk x225
            refine bindP_eq (bindP_nil ?_)
            exact OpS_v rfl (o_fa Tryz.underlying201 rfl Tryz.sizeOf199 rfl)
          refine OblL_cons (fun w227 x228 => ?_) ?_
          · skip
            have z229 := Bel.size x228
            have ho := ho.ext x228
            have hmk := Mks.ext hmk x228
            refine bindP_eq (bindP_nil ?_)
            exact OpS_v rfl (o_load1 Tryz.isAgg199 rfl (ho.at.get 2 rfl))
          refine OblL_cons (fun w230 x231 => ?_) ?_
          · skip
            have z232 := Bel.size x231
            have hmk := Mks.ext hmk x231
            have hb6 := hb6.ext x231
            refine bindP_nil ?_
            exact OpS_v rfl (o_load1 Tryz.isAgg3 rfl (hb6.at.get 0 rfl))
          refine OblL_cons (fun w233 x234 => ?_) ?_
          · skip
            have z235 := Bel.size x234
            have hmk := Mks.ext hmk x234
            have hown16 := hown16.ext x234
            refine bindP_eq (bindP_eq (bindP_nil ?_))
            exact OpS_v rfl (o_iaO (i := b.val) Tryz.underlying199 Tryz.sizeOf36 hown16 rfl rfl (by omega))
          refine OblL_cons (fun w236 x237 => ?_) ?_
          · skip
            have z238 := Bel.size x237
            have hmk := Mks.ext hmk x237
            have hown16 := hown16.ext x237
            refine bindP_eq (bindP_nil ?_)
            exact OpS_v rfl (o_ldRS Tryz.isAgg36 Tryz.sizeOf36 (hown16.slA encSV_ok) rfl (getE sz (by omega)))
          refine OblL_cons (fun w239 x240 => ?_) ?_
          · skip
            have z241 := Bel.size x240
            have hb1 := hb1.ext x240
            have hmk := Mks.ext hmk x240
            refine bindP_nil ?_
            exact OpS_v rfl (o_load1 Tryz.isAgg142 rfl (hb1.at.get 0 rfl))
          refine OblL_cons (fun w242 x243 => ?_) ?_
          · skip
            have z244 := Bel.size x243
            have hmk := Mks.ext hmk x243
            refine bindP_eq (bindP_nil ?_)
            exact OpS_v rfl (o_nilc rfl)
          refine OblL_cons (fun w245 x246 => ?_) ?_
          · skip
            have z247 := Bel.size x246
            have hmk := Mks.ext hmk x246
            refine bindP_eq (bindP_nil ?_)
            exact OpS_v rfl (o_fa Tryz.underlying201 rfl Tryz.sizeOf199 rfl)
          refine OblL_cons (fun w248 x249 => ?_) ?_
          · skip
            have z250 := Bel.size x249
            have ho := ho.ext x249
            have hmk := Mks.ext hmk x249
            refine bindP_eq (bindP_nil ?_)
            exact OpS_v rfl (o_load1 Tryz.isAgg199 rfl (ho.at.get 2 rfl))
          refine OblL_cons (fun w251 x252 => ?_) ?_
          · skip
            have z253 := Bel.size x252
            have hmk := Mks.ext hmk x252
            refine bindP_nil ?_
            exact OpS_v rfl (o_moveh (v := .int _ _) rfl)
          refine OblL_cons (fun w254 x255 => ?_) ?_
          · skip
            have z256 := Bel.size x255
            have hmk := Mks.ext hmk x255
            have hown16 := hown16.ext x255
            refine bindP_eq (bindP_eq (bindP_nil ?_))
            exact OpS_v rfl (o_iaO (i := a.val) Tryz.underlying199 Tryz.sizeOf36 hown16 rfl rfl (by omega))
          refine OblL_cons (fun w257 x258 => ?_) ?_
          · skip
            have z259 := Bel.size x258
            have hmk := Mks.ext hmk x258
            have hown16 := hown16.ext x258
            refine bindP_eq (bindP_nil ?_)
            exact OpS_v rfl (o_ldRS Tryz.isAgg36 Tryz.sizeOf36 (hown16.slA encSV_ok) rfl (getE sz (by omega)))
          refine OblL_cons (fun w260 x261 => ?_) ?_
          · skip
            have z262 := Bel.size x261
            have hmk := Mks.ext hmk x261
            have hwa := hwa.ext x261
            refine bindP_eq (bindP_eq (bindP_nil ?_))
            exact OpS_mem rfl (o_call2 Tryz.call73 rfl rfl) ((bor_ok _ ⟨_, _, _⟩ _ (hwa _ (gm (by omega))) ⟨_, _, _⟩ _ (hwa _ (gm (by omega)))).mono (fun v w2 ⟨x, c, e, h, y⟩ => ⟨y, x, c, e, h.mono (fun g h1 h2 => by omega)⟩))
          refine OblL_cons (fun w263 x264 => ?_) ?_
          · skip
            have z265 := Bel.size x264
            have hmk := Mks.ext hmk x264
            refine bindP_nil ?_
            exact OpS_v rfl (o_moveh (v := .int _ _) rfl)
          refine OblL_cons (fun w266 x267 => ?_) ?_
          · skip
            have z268 := Bel.size x267
            have hmk := Mks.ext hmk x267
            refine bindP_mem (fun v91 hv91 => ?_)
            obtain ⟨a91, c91, rfl, hq91⟩ := hv91
            refine bindP_eq ?_
            refine bindP_mem (fun v91 hv91 => ?_)
            obtain ⟨a91, c91, rfl, hq91⟩ := hv91
            refine bindP_nil ?_
            exact OpS_mem rfl (o_call2 Tryz.call47 rfl rfl) ((bwith_ok _ ⟨_, _, _⟩ _ hq91 a.val hal).mono (fun v w2 ⟨x, c, e, h, y⟩ => ⟨y, x, c, e, h.mono (fun g h1 h2 => h2.elim (fun h => h) (fun h => by omega))⟩))
          refine OblL_cons (fun w269 x270 => ?_) ?_
          · skip
            have z271 := Bel.size x270
            have hmk := Mks.ext hmk x270
            have hown16 := hown16.ext x270
            refine bindP_eq (bindP_eq (bindP_eq (bindP_eq (bindP_eq (bindP_eq (bindP_eq (bindP_eq (bindP_eq ?_))))))))
            refine bindP_eq (bindP_eq (bindP_eq (bindP_eq (bindP_eq (bindP_eq (bindP_eq (bindP_eq (bindP_eq ?_))))))))
            refine bindP_eq (bindP_eq (bindP_eq ?_))
            refine bindP_mem (fun v91 hv91 => ?_)
            obtain ⟨a91, c91, rfl, hq91⟩ := hv91
            refine bindP_eq ?_
            refine bindP_mem (fun v93 hv93 => ?_)
            obtain ⟨a93, c93, rfl, hq93⟩ := hv93
            refine bindP_nil ?_
            exact OpS_v rfl (o_iaO (i := b.val) Tryz.underlying199 Tryz.sizeOf36 hown16 rfl rfl (by omega))
          exact OblL_nil
        case fin14 =>
          intro w272 x273
          have z274 := Bel.size x273
          replace hX := Bel.ex hX x273
          replace hXL192 := Bel.ex hXL192 x273
          replace hXL199 := Bel.ex hXL199 x273
          replace hmk := Mks.ext hmk x273
          replace hown16 := hown16.ext x273
          replace hwa := hwa.ext x273
          refine bindP_eq (bindP_eq (bindP_eq (bindP_eq (bindP_eq (bindP_eq (bindP_eq (bindP_eq (bindP_eq ?_))))))))
          refine bindP_eq (bindP_eq (bindP_eq (bindP_eq (bindP_eq (bindP_eq (bindP_eq (bindP_eq (bindP_eq ?_))))))))
          refine bindP_eq ?_
          refine bindP_mem (fun v91 hv91 => ?_)
          obtain ⟨a91, c91, rfl, hq91⟩ := hv91
          refine bindP_eq ?_
          refine bindP_mem (fun v93 hv93 => ?_)
          obtain ⟨a93, c93, rfl, hq93⟩ := hv93
          refine bindP_eq (bindP_nil ?_)
          refine Rg_elst (u := ⟨a93, c93, ((la2.getD b.val sz).x ||| (la2.getD a.val sz).x) ||| oneW a.val⟩) rfl encSV_ok Tryz.sizeOf36 rfl rfl rfl hown16 (by omega) ?_
          intro w275 x276 hown16
          have z277 := Bel.size x276
          replace hX := Bel.out hX x276 (fun g h1 h2 => by first | exact h2 | omega)
          replace hXL192 := Bel.out hXL192 x276 (fun g h1 h2 => by first | exact h2 | omega)
          replace hXL199 := Bel.out hXL199 x276 (fun g h1 h2 => by first | exact h2 | omega)
          replace hwa := hwa.keep x276 (fun g h1 h2 h3 => by omega)
          replace hq93 := hq93.keep x276 (fun g h1 h2 h3 => by omega)
          refine Rg_nil (W_region ?_)
          refine Rg_run rfl (o_add rfl rfl (by have h7 := (List.getElem?_eq_some_iff.1 ha0).1; have h8 := dl_len ps ps.length b; rw [List.take_length] at h8; unfold I64; omega)) ?_
          refine Rg_run rfl (o_moveh (v := .int _ _) rfl) ?_
          refine Rg_nil ?_
          refine ⟨(m + 1, la2.set b.val ⟨a93, c93, ((la2.getD b.val sz).x ||| (la2.getD a.val sz).x) ||| oneW a.val⟩), ⟨?_, trivial⟩, ?_, ⟨?_, hXL199, ?_⟩, ?_⟩
          · first | rfl | (go_num) | (exact congrArg _ (by omega))
          · repeat (first | exact off_refl _ _ | exact off_mix | refine off_put rfl ?_ | refine off_putN ?_ | refine off_setL rfl ?_ | refine off_mix' rfl ?_)
          · exact ⟨by show m + 1 ≤ _; have := (List.getElem?_eq_some_iff.1 ha0).1; omega, by simp [hla2], by rw [xs_set (by omega), if_pos rfl, upA_succ ha0, ← hup, ← hoth _ hne]; rfl, fun i hi => by rw [xs_set (by omega), if_neg hi]; exact hoth i hi⟩
          · exact ⟨hown16, hwa.set hq93⟩
          · show (dlO ps b).length - (m + 1) < _; omega
      replace hc3 := of_decide_eq_false hc3
      refine W_exit (exAt_hit (W_seq ?_))
      have hab2 : AbOk ps srt (j + 1) (xsO la2) := hab.next ht hb (fun i _ => by
        by_cases e : i = b.val
        · rw [if_pos e, e, hup, show m = (dlO ps b).length by omega]
        · rw [if_neg e]; exact hoth i e)
      obtain ⟨n6, hn6⟩ : ∃ n, n = w200.heap.size := ⟨_, rfl⟩
      apply W_draw (β := False) [peq _, peq _, peq _, peq _, peq _, peq _, peq _, (fun v w => ∃ z, v = .func (.func 126) #[] #[.pointer (some ⟨z, 0, none⟩)] ∧ n6 ≤ z ∧ At w z 0 (encSV (la2.getD b.val sz)))] 8 mixed (by kernel_rfl) rfl ⟨peq_stable _, peq_stable _, peq_stable _, peq_stable _, peq_stable _, peq_stable _, peq_stable _, ((by rintro v w w2 ⟨z, h1, h2, h3⟩ x; exact ⟨z, h1, h2, h3.ext x⟩)), trivial⟩ ?ob16 ?fin16
      case ob16 =>
        refine OblL_cons (fun w278 x279 => ?_) ?_
        · skip
          have z280 := Bel.size x279
          have hb1 := hb1.ext x279
          have hmk := Mks.ext hmk x279
          refine bindP_nil ?_
          exact OpS_v rfl (o_load1 Tryz.isAgg142 rfl (hb1.at.get 0 rfl))
        refine OblL_cons (fun w281 x282 => ?_) ?_
        · skip
          have z283 := Bel.size x282
          have hmk := Mks.ext hmk x282
          refine bindP_eq (bindP_nil ?_)
          exact OpS_v rfl (o_nilc rfl)
        refine OblL_cons (fun w284 x285 => ?_) ?_
        · skip
          have z286 := Bel.size x285
          have hmk := Mks.ext hmk x285
          refine bindP_eq (bindP_nil ?_)
          exact OpS_v rfl (o_fa Tryz.underlying201 rfl Tryz.sizeOf199 rfl)
        refine OblL_cons (fun w287 x288 => ?_) ?_
        · skip
          have z289 := Bel.size x288
          have ho := ho.ext x288
          have hmk := Mks.ext hmk x288
          refine bindP_eq (bindP_nil ?_)
          exact OpS_v rfl (o_load1 Tryz.isAgg199 rfl (ho.at.get 2 rfl))
        refine OblL_cons (fun w290 x291 => ?_) ?_
        · skip
          have z292 := Bel.size x291
          have hmk := Mks.ext hmk x291
          have hb6 := hb6.ext x291
          refine bindP_nil ?_
          exact OpS_v rfl (o_load1 Tryz.isAgg3 rfl (hb6.at.get 0 rfl))
        refine OblL_cons (fun w293 x294 => ?_) ?_
        · skip
          have z295 := Bel.size x294
          have hmk := Mks.ext hmk x294
          have hown16 := hown16.ext x294
          refine bindP_eq (bindP_eq (bindP_nil ?_))
          exact OpS_v rfl (o_iaO (i := b.val) Tryz.underlying199 Tryz.sizeOf36 hown16 rfl rfl (by omega))
        refine OblL_cons (fun w296 x297 => ?_) ?_
        · skip
          have z298 := Bel.size x297
          have hmk := Mks.ext hmk x297
          have hown16 := hown16.ext x297
          refine bindP_eq (bindP_nil ?_)
          exact OpS_v rfl (o_ldRS Tryz.isAgg36 Tryz.sizeOf36 (hown16.slA encSV_ok) rfl (getE sz (by omega)))
        refine OblL_cons (fun w299 x300 => ?_) ?_
        · skip
          have z301 := Bel.size x300
          have hmk := Mks.ext hmk x300
          have hwa := hwa.ext x300
          refine bindP_eq (bindP_nil ?_)
          exact OpS_mem rfl (o_call1 Tryz.call72 rfl) ((ball_ok _ ⟨_, _, _⟩ _ (hwa _ (gm (by omega)))).mono (fun v w2 ⟨z, e, h, h2, y⟩ => ⟨y, z, e, by omega, h2⟩))
        exact OblL_nil
      case fin16 =>
        intro w302 x303
        have z304 := Bel.size x303
        replace hX := Bel.ex hX x303
        replace hXL192 := Bel.ex hXL192 x303
        replace hT := hT.ext x303
        replace hb1 := hb1.ext x303
        replace ho := ho.ext x303
        replace hown21 := hown21.ext x303
        replace hwb := hwb.ext x303
        replace hmk := Mks.ext hmk x303
        replace hb6 := hb6.ext x303
        replace hown16 := hown16.ext x303
        replace hwa := hwa.ext x303
        refine bindP_eq (bindP_eq (bindP_eq (bindP_eq (bindP_eq (bindP_eq (bindP_eq ?_))))))
        refine bindP_mem (fun v103 hv103 => ?_)
        obtain ⟨b103, rfl, hge103, hb103⟩ := hv103
        have hlt103 := hb103.lt
        refine bindP_nil (Rg_nil (W_block ?_))
        obtain ⟨m0, hm0⟩ : ∃ m, m = w302.heap.size := ⟨_, rfl⟩
        have hmlt : ∀ t, t ∈ ms → t < m0 := fun t ht => by have := Mks.lt hmk t ht; omega
        replace hwa := hwa.mono (F' := fun g => n3 ≤ g ∧ g < m0) (fun g h1 h2 => ⟨h2, by omega⟩)
        refine W_range (memW (xsO la2 b.val) 64) (fun i => Value.int .i64 i) (fun g => g = g21) (fun i w' => Bel False (fun g => g = g21) w302 w' ∧ ∃ lb2 : List SV, lb2.length = 64 ∧ (∀ t : Nat, t < 64 → xsO lb2 t = if (t : Int) ∈ (memW (xsO la2 b.val) 64).take i then xsO lb t ||| oneW b.val else xsO lb t) ∧ Own encSV 1 36 (fun g => g = g21) w' (.slice (some ⟨g21, 0, none⟩) 64 64) lb2 ∧ WdsAt (fun g => (n3 ≤ g ∧ g < m0) ∨ m0 + 2 ≤ g) w' lb2) rfl rfl Tryz.call126 (ball_iter _ _ (la2.getD b.val sz) _ _ hb103 (hwa _ (gm (by omega))) hT (by omega) (by omega) (fun g h1 h2 h3 => by omega)) (fun g h => by omega) (fun i a b hsz hi x => ?_) (fun a x hsz => ?_) (fun l i y w305 hy hsz hi => ?_) (fun w306 hsz hi hmkm0 => ?_)
        · obtain ⟨hB, ⟨lb2, hlb2, hlv, hown21, hwb⟩⟩ := hi; exact ⟨Bel.out hB x (fun g h1 h2 => by omega), _, hlb2, hlv, hown21.keepD x (fun g h1 h2 h3 => by omega), hwb.keep x (fun g h1 h2 h3 => by omega)⟩
        · exact ⟨x.mono fun _ _ h => h.elim, _, hlb, fun t _ => by simp, hown21.ext x, (hwb.mono (fun g h1 h2 => Or.inl ⟨h2, by omega⟩)).ext x⟩
        · skip
          obtain ⟨hXR307, ⟨lb2, hlb2, hlv, hown21, hwb⟩⟩ := hi
          have z308 := Bel.size hXR307
          replace hX := Bel.out hX hXR307 (fun g h1 h2 => by first | exact h2 | omega)
          replace hXL192 := Bel.out hXL192 hXR307 (fun g h1 h2 => by first | exact h2 | omega)
          replace hb1 := hb1.keep hXR307 (fun h => by omega)
          replace ho := ho.keep hXR307 (fun h => by omega)
          replace hmk := hmk.kp hXR307 (fun g h1 h2 => by have := hms g h1; first | omega | (have := hmlt g h1; omega))
          replace hb6 := hb6.keep hXR307 (fun h => by omega)
          obtain ⟨yn, rfl⟩ : ∃ n : Nat, y = n := ⟨y.toNat, by have := memW_ok _ y (List.mem_of_getElem? hy); omega⟩
          have hyl : yn < 64 := by have := memW_ok _ _ (List.mem_of_getElem? hy); omega
          refine W_region ?_
          refine Rg_run rfl (o_assignh (v := .int _ _) rfl) ?_
          refine Rg_nil ?_
          refine ⟨Ext.rfl' _, fun w309 x310 => ?_⟩
          have z311 := Bel.size x310
          replace hb1 := hb1.keep x310 (fun h => by omega)
          replace ho := ho.keep x310 (fun h => by omega)
          replace hmk := hmk.kp x310 (fun g h1 h2 => by have := hms g h1; first | omega | (have := hmlt g h1; omega))
          replace hb6 := hb6.keep x310 (fun h => by omega)
          replace hown21 := hown21.keepD x310 (fun g h1 h2 h3 => by omega)
          replace hwb := hwb.keep x310 (fun g h1 h2 h3 => by omega)
          have hXB : Bel False (fun g => g = g21) w309 w309 := Bel.refl _ _
          refine W_block ?_
          apply W_draw (β := False) [peq _, peq _, peq _, peq _, peq _, peq _, peq _, peq _, peq _, peq _, peq _, peq _, peq _, (postSV (fun g => (n3 ≤ g ∧ g < m0) ∨ m0 + 2 ≤ g) ((lb2.getD yn sz).x ||| oneW b.val)), peq _] 15 mixed (by kernel_rfl) rfl ⟨peq_stable _, peq_stable _, peq_stable _, peq_stable _, peq_stable _, peq_stable _, peq_stable _, peq_stable _, peq_stable _, peq_stable _, peq_stable _, peq_stable _, peq_stable _, (postSV_stable _ _), peq_stable _, trivial⟩ ?ob18 ?fin18
          case ob18 =>
            refine OblL_cons (fun w312 x313 => ?_) ?_
            · skip
              have z314 := Bel.size x313
              have hb1 := hb1.ext x313
              have hmk := Mks.ext hmk x313
              refine bindP_nil ?_
              exact OpS_v rfl (o_load1 Tryz.isAgg142 rfl (hb1.at.get 0 rfl))
            refine OblL_cons (fun w315 x316 => ?_) ?_
            · skip
              have z317 := Bel.size x316
              have hmk := Mks.ext hmk x316
              refine bindP_eq (bindP_nil ?_)
              exact OpS_v rfl (o_nilc rfl)
            refine OblL_cons (fun w318 x319 => ?_) ?_
            · skip
              have z320 := Bel.size x319
              have hmk := Mks.ext hmk x319
              refine bindP_eq (bindP_nil ?_)
              exact OpS_v rfl (o_fa Tryz.underlying201 rfl Tryz.sizeOf199 rfl)
            refine OblL_cons (fun w321 x322 => ?_) ?_
            · skip
              have z323 := Bel.size x322
              have ho := ho.ext x322
              have hmk := Mks.ext hmk x322
              refine bindP_eq (bindP_nil ?_)
              exact OpS_v rfl (o_load1 Tryz.isAgg199 rfl (ho.at.get 3 rfl))
            refine OblL_cons (fun w324 x325 => ?_) ?_
            · skip
              have z326 := Bel.size x325
              have hmk := Mks.ext hmk x325
              refine bindP_nil ?_
              exact OpS_v rfl (o_moveh (v := .int _ _) rfl)
            refine OblL_cons (fun w327 x328 => ?_) ?_
            · skip
              have z329 := Bel.size x328
              have hb1 := hb1.ext x328
              have hmk := Mks.ext hmk x328
              refine bindP_nil ?_
              exact OpS_v rfl (o_load1 Tryz.isAgg142 rfl (hb1.at.get 0 rfl))
            refine OblL_cons (fun w330 x331 => ?_) ?_
            · skip
              have z332 := Bel.size x331
              have hmk := Mks.ext hmk x331
              refine bindP_eq (bindP_nil ?_)
              exact OpS_v rfl (o_nilc rfl)
            refine OblL_cons (fun w333 x334 => ?_) ?_
            · skip
              have z335 := Bel.size x334
              have hmk := Mks.ext hmk x334
              refine bindP_eq (bindP_nil ?_)
              exact OpS_v rfl (o_fa Tryz.underlying201 rfl Tryz.sizeOf199 rfl)
            refine OblL_cons (fun w336 x337 => ?_) ?_
            · skip
              have z338 := Bel.size x337
              have ho := ho.ext x337
              have hmk := Mks.ext hmk x337
              refine bindP_eq (bindP_nil ?_)
              exact OpS_v rfl (o_load1 Tryz.isAgg199 rfl (ho.at.get 3 rfl))
            refine OblL_cons (fun w339 x340 => ?_) ?_
            · skip
              have z341 := Bel.size x340
              have hmk := Mks.ext hmk x340
              refine bindP_nil ?_
              exact OpS_v rfl (o_moveh (v := .int _ _) rfl)
            refine OblL_cons (fun w342 x343 => ?_) ?_
            · skip
              have z344 := Bel.size x343
              have hmk := Mks.ext hmk x343
              have hown21 := hown21.ext x343
              refine bindP_eq (bindP_eq (bindP_nil ?_))
              exact OpS_v rfl (o_iaO (i := yn) Tryz.underlying199 Tryz.sizeOf36 hown21 rfl rfl (by omega))
            refine OblL_cons (fun w345 x346 => ?_) ?_
            · skip
              have z347 := Bel.size x346
              have hmk := Mks.ext hmk x346
              have hown21 := hown21.ext x346
              refine bindP_eq (bindP_nil ?_)
              exact OpS_v rfl (o_ldRS Tryz.isAgg36 Tryz.sizeOf36 (hown21.slA encSV_ok) rfl (getE sz (by omega)))
            refine OblL_cons (fun w348 x349 => ?_) ?_
            · skip
              have z350 := Bel.size x349
              have hmk := Mks.ext hmk x349
              have hb6 := hb6.ext x349
              refine bindP_nil ?_
              exact OpS_v rfl (o_load1 Tryz.isAgg3 rfl (hb6.at.get 0 rfl))
            refine OblL_cons (fun w351 x352 => ?_) ?_
            · skip
              have z353 := Bel.size x352
              have hmk := Mks.ext hmk x352
              have hwb := hwb.ext x352
              refine bindP_eq (bindP_eq (bindP_nil ?_))
              exact OpS_mem rfl (o_call2 Tryz.call47 rfl rfl) ((bwith_ok _ ⟨_, _, _⟩ _ (hwb _ (gm (by omega))) b.val hbl).mono (fun v w2 ⟨x, c, e, h, y⟩ => ⟨y, x, c, e, h.mono (fun g h1 h2 => h2.elim (fun h => h) (fun h => by omega))⟩))
            refine OblL_cons (fun w354 x355 => ?_) ?_
            · skip
              have z356 := Bel.size x355
              have hmk := Mks.ext hmk x355
              have hown21 := hown21.ext x355
              refine bindP_eq (bindP_eq (bindP_eq (bindP_eq (bindP_eq (bindP_eq (bindP_eq (bindP_eq (bindP_eq ?_))))))))
              refine bindP_eq (bindP_eq (bindP_eq (bindP_eq (bindP_eq (bindP_eq ?_)))))
              refine bindP_mem (fun v118 hv118 => ?_)
              obtain ⟨a118, c118, rfl, hq118⟩ := hv118
              refine bindP_nil ?_
              exact OpS_v rfl (o_iaO (i := yn) Tryz.underlying199 Tryz.sizeOf36 hown21 rfl rfl (by omega))
            exact OblL_nil
          case fin18 =>
            intro w357 x358
            have z359 := Bel.size x358
            replace hXB := Bel.ex hXB x358
            replace hmk := Mks.ext hmk x358
            replace hown21 := hown21.ext x358
            replace hwb := hwb.ext x358
            refine bindP_eq (bindP_eq (bindP_eq (bindP_eq (bindP_eq (bindP_eq (bindP_eq (bindP_eq (bindP_eq ?_))))))))
            refine bindP_eq (bindP_eq (bindP_eq (bindP_eq ?_)))
            refine bindP_mem (fun v118 hv118 => ?_)
            obtain ⟨a118, c118, rfl, hq118⟩ := hv118
            refine bindP_eq (bindP_nil ?_)
            refine Rg_elst (u := ⟨a118, c118, (lb2.getD yn sz).x ||| oneW b.val⟩) rfl encSV_ok Tryz.sizeOf36 rfl rfl rfl hown21 (by omega) ?_
            intro w360 x361 hown21
            have z362 := Bel.size x361
            replace hXB := Bel.out hXB x361 (fun g h1 h2 => by first | exact h2 | omega)
            replace hwb := hwb.keep x361 (fun g h1 h2 h3 => by omega)
            replace hq118 := hq118.keep x361 (fun g h1 h2 h3 => by omega)
            refine Rg_nil ?_
            refine ⟨hXB, Bel.out (Bel.out hXR307 x310 (fun g h1 h2 => by omega)) hXB (fun g h1 h2 => by first | exact h2 | omega), ?_⟩
            refine ⟨lb2.set yn ⟨a118, c118, (lb2.getD yn sz).x ||| oneW b.val⟩, by simp [hlb2], fun t ht => ?_, hown21, hwb.set hq118⟩
            rw [xs_set (by omega), be_step (memW_nodup _) hy]
            by_cases e : t = yn
            · subst e
              rw [if_pos rfl, if_pos rfl]
              have h5 := hlv t ht
              rw [if_neg (not_in_takeA (memW_nodup _) hy)] at h5
              rw [← h5]; rfl
            · rw [if_neg e, if_neg (by omega), hlv t ht]
        obtain ⟨hXR363, ⟨lb2, hlb2, hlv, hown21, hwb⟩⟩ := hi
        have z364 := Bel.size hXR363
        replace hX := Bel.out hX hXR363 (fun g h1 h2 => by first | exact h2 | omega)
        replace hXL192 := Bel.out hXL192 hXR363 (fun g h1 h2 => by first | exact h2 | omega)
        replace hmk := hmk.kp hXR363 (fun g h1 h2 => by have := hms g h1; first | omega | (have := hmlt g h1; omega))
        replace hown16 := hown16.keepD hXR363 (fun g h1 h2 h3 => by omega)
        replace hwa := hwa.keep hXR363 (fun g h1 h2 h3 => by omega)
        rw [List.take_length] at hlv
        replace hwa := hwa.mono (F' := fun g => n3 ≤ g) (fun g _ h => h.1)
        replace hwb := hwb.mono (F' := fun g => n3 ≤ g) (fun g _ h => by omega)
        rw [← hm0]
        replace hmk : Mks w306 (m0 :: ms) := ⟨fun h => Nat.lt_irrefl _ (hmlt _ h), (congrArg (fun k => w306.heap[k]?) hm0).trans hmkm0, hmk⟩
        refine W_region ?_
        refine Rg_run rfl (o_add rfl rfl (by first | omega | (unfold I64; omega) | (simp; done) | (simp; omega) | (simp at *; omega))) ?_
        refine Rg_run rfl (o_moveh (v := .int _ _) rfl) ?_
        refine Rg_nil ?_
        refine ⟨(j + 1, la2, lb2, m0 :: ms), ⟨?_, trivial⟩, ?_, rfl, ⟨?_, hXL192, ?_⟩, ?_⟩
        · first | rfl | (go_num) | (exact congrArg _ (by omega))
        · refine offS_of ?_; repeat (first | exact offS_refl _ _ | exact offS_mixR | refine offS_put rfl ?_ | refine offS_putN ?_ | refine offS_mark ?_ | refine offS_wds ?_ | refine offS_setL rfl ?_ | refine offS_mix rfl ?_)
        · exact ⟨by show j + 1 ≤ 64; omega, hla2, hlb2, hab2, hbe.next ht hb hab2 hlv, fun t h => (List.mem_cons.1 h).elim (fun e => by omega) (hms t)⟩
        · exact ⟨hown16, hown21, hwa, hwb, hmk⟩
        · show 64 - (j + 1) < 64 - j; omega
    replace hc2 := of_decide_eq_false hc2
    refine W_exit (exAt_hit ?_)
    obtain ⟨w365, hw365⟩ : ∃ u, u = shut w193 ms := ⟨_, rfl⟩
    have x366 : Bel False (fun g => g ∈ ms) w193 w365 := by rw [hw365]; exact shut_bel _ _
    refine ⟨ms, ?_⟩
    rw [← hw365]
    have hmk0 := hmk
    replace x366 := x366.mono (D' := fun g => n3 ≤ g) (fun g _ h => hms g h)
    replace hwa := hwa.shut hmk0
    rw [← hw365] at hwa
    replace hwb := hwb.shut hmk0
    rw [← hw365] at hwb
    have z367 := Bel.size x366
    replace hX := Bel.out hX x366 (fun g h1 h2 => by first | exact h2 | omega)
    replace ho := ho.keep x366 (fun h => by omega)
    replace hown16 := hown16.keepD x366 (fun g h1 h2 h3 => by omega)
    replace hown21 := hown21.keepD x366 (fun g h1 h2 h3 => by omega)
    refine ⟨_, hmk0, res_none rfl, ?_⟩
    have hj64 : j = 64 := by omega
    subst hj64
    exact ⟨rfl, _, _, la, lb, ho, (hown16.slA encSV_ok).mono (fun g h1 h2 => ⟨by omega, by omega⟩), (hown21.slA encSV_ok).mono (fun g h1 h2 => ⟨by omega, by omega⟩), hwa.mono (fun g h1 h2 => ⟨by omega, h1⟩), hwb.mono (fun g h1 h2 => ⟨by omega, h1⟩), hla, hlb, ⟨hbe.done ht hl, hab.done ht hl⟩, hX.mono (fun g h1 h2 => by omega)⟩

end Go.Proofs.YtncmjgmlnnenhaaGreatDoor
