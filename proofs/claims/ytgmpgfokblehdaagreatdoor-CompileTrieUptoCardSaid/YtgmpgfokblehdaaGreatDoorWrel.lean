/- Walks: what functions return. -/
import Derived.Test.YtgmpgfokblehdaaGreatDoorWkahn
set_option linter.unusedVariables false
set_option linter.unusedSimpArgs false
set_option linter.unnecessarySimpa false
namespace Go.Proofs.YtgmpgfokblehdaaGreatDoor
open Go Go.Lx Go.RowKit Tryz
set_option maxRecDepth 100000
theorem el_dir : ElT Tryz.prog 271 153 1 24 (.slice none 0 0) := ⟨underlying271, ⟨Tryz.t153, by kernel_rfl, rfl, rfl, rfl⟩, rfl, by decide, by decide⟩
set_option maxHeartbeats 8000000 in
theorem orel_ok (po : Nat) (ap : Option Addr) (cp : Nat) (ps : List Pr) (sa : Option Addr) (sc : Nat) (srt : List (Fin 64)) (ρ : Fin 64 → Nat) (w : World) (ho : Box w po 210 [.int .i64 64, .slice ap ps.length cp, .slice none 0 0, .slice none 0 0, .slice sa srt.length sc]) (hps : Sl encPr 2 (fun g => g ≠ po) w ap cp ps) (hsr : Sl encF 1 (fun g => g ≠ po) w sa sc srt) (hT : Tb w) (hpo : po ≠ 0) (hn : ps.length ≤ 1100000) (ht : Topo ps srt) (hl : srt.length = 64) (hρ : ∀ x ∈ ps, ρ x.1 < ρ x.2) : Ok Tryz.prog 150 #[.pointer (some ⟨po, 0, none⟩)] w fun v w' => v = .tuple #[] ∧ ∃ (aa ab : Option Addr) (la lb : List SV), Box w' po 210 [.int .i64 64, .slice ap ps.length cp, .slice aa 64 64, .slice ab 64 64, .slice sa srt.length sc] ∧ Sl encSV 1 (Fsh w w') w' aa 64 la ∧ Sl encSV 1 (Fsh w w') w' ab 64 lb ∧ WdsAt (Fsh w w') w' la ∧ WdsAt (Fsh w w') w' lb ∧ la.length = 64 ∧ lb.length = 64 ∧ (BelS ps (xsO lb) ∧ AboS ps (xsO la)) ∧ Bel False (fun g => g = po) w w' := by
 replace hps := hps.mono (F' := fun g => g ≠ po ∧ g < w.heap.size) (fun g h1 h2 => ⟨h2, h1⟩)
 replace hsr := hsr.mono (F' := fun g => g ≠ po ∧ g < w.heap.size) (fun g h1 h2 => ⟨h2, h1⟩)
 have hol := ho.lt
 have hTl := hT.lt
 obtain ⟨n0, hn0⟩ : ∃ n, n = w.heap.size := ⟨_, rfl⟩
 refine Ok_of_WM 121 func150 rfl rfl rfl ?_
 have hX : Bel False (fun g => g = po ∨ w.heap.size ≤ g) w w := Bel.refl _ _
 refine Qf (Qb (QH rfl (QX (v := .pointer _) rfl) ?_))
 intro b1 w1 x2 hge1 hb1
 have hlt1 := hb1.lt
 have z3 := x2.size
 replace hX := hX.ex x2
 replace ho := ho.ext x2
 replace hps := hps.ext x2
 replace hsr := hsr.ext x2
 replace hT := hT.ext x2
 refine Qc (Qf ?_)
 apply Zl (β := False) (fun b => if b = po then 3 else 0) [peqC _, peqC _, peqC _, peqC _, peqC _, peqC _, (postNew encSV 1 32 w1 64 (List.replicate 64 sz)), peqC _, peqC _, peqC _, peqC _, (fun v w c => ∃ a, v = .slice a 64 64 ∧ postOwn encSV 1 32 2 (List.replicate 64 sz) v w c), peqC _, peqC _, (postSt encSV 1 32 w1 64 (List.replicate 64 sz) po 3 210 (fun v => [.int .i64 64, .slice ap ps.length cp, v, .slice none 0 0, .slice sa srt.length sc]))] [0, 0, 0, 0, 0, 0, 0, 0, 0, 0, 0, 2, 0, 0, 3] 15 QV (by kernel_rfl) (by kernel_rfl) rfl ⟨Qk _ _, Qk _ _, Qk _ _, Qk _ _, Qk _ _, Qk _ _, (postNew_stable), Qk _ _, Qk _ _, Qk _ _, Qk _ _, (ZJ), Qk _ _, Qk _ _, (postSt_stable), trivial⟩ ?ob1 ?fin1
 case ob1 =>
  refine Ql (fun w4 c6 x5 hc07 hk8 => ?_) ?_
  ·replace x5 := Bel.mono x5 (D' := fun g => g = po) omC
   have hb1 := hb1.keep x5 om1
   exact Qi (Qx rfl (Qm isAgg128 rfl (hb1.at.get 0 rfl)))
  refine Ql (fun w10 c12 x11 hc013 hk14 => ?_) ?_
  ·replace x11 := Bel.mono x11 (D' := fun g => g = po) omC
   have hb1 := hb1.keep x11 om1
   exact Qi (Qx rfl (Qm isAgg128 rfl (hb1.at.get 0 rfl)))
  refine Ql (fun w16 c18 x17 hc019 hk20 => ?_) ?_
  ·replace x17 := Bel.mono x17 (D' := fun g => g = po) omC
   have hb1 := hb1.keep x17 om1
   exact Qi (Qx rfl (Qm isAgg128 rfl (hb1.at.get 0 rfl)))
  refine Ql (fun w22 c24 x23 hc025 hk26 => Qh (Qi (Qx rfl (QJ rfl)))) (Ql (fun w28 c30 x29 hc031 hk32 => Qh (Qi (Qx rfl (Qy underlying210 rfl sizeOf3 rfl)))) (Ql (fun w34 c36 x35 hc037 hk38 => ?_) ?_))
  ·have ho := ho.blk (hk38 3 (by decide) (by kernel_rfl) _ ho.lt (by first | (simp [colAt]; done) | (simp [colAt]; omega)))
   exact Qh (Qi (Qx rfl (Qm isAgg3 rfl (ho.at.get 0 rfl))))
  refine Ql (fun w40 c42 x41 hc043 hk44 => ?_) ?_
  ·replace x41 := Bel.mono x41 (D' := fun g => g = po) omC
   exact Qh (Qh (Qi (OpC_new (m := 64) sz (Bel.size x41) Q9 Ji rfl rfl rfl (by decide))))
  refine Ql (fun w46 c48 x47 hc049 hk50 => ?_) ?_
  ·replace x47 := Bel.mono x47 (D' := fun g => g = po) omC
   have hb1 := hb1.keep x47 om1
   exact Qi (Qx rfl (Qm isAgg128 rfl (hb1.at.get 0 rfl)))
  refine Ql (fun w52 c54 x53 hc055 hk56 => Qh (Qi (Qx rfl (QJ rfl)))) (Ql (fun w58 c60 x59 hc061 hk62 => Qh (Qi (Qx rfl (Qy underlying210 rfl sizeOf3 rfl)))) (Ql (fun w64 c66 x65 hc067 hk68 => ?_) ?_))
  ·have ho := ho.blk (hk68 3 (by decide) (by kernel_rfl) _ ho.lt (by first | (simp [colAt]; done) | (simp [colAt]; omega)))
   exact Qh (Qi (Qx rfl (Qm isAgg3 rfl (ho.at.get 0 rfl))))
  refine Ql (fun w70 c72 x71 hc073 hk74 => Qh (Qh (Qi (OpC_make (m := 64) sz Q9 Ji rfl rfl rfl (by decide))))) (Ql (fun w76 c78 x77 hc079 hk80 => ?_) ?_)
  ·refine Qh (Qh (Qh (Qh (Qh (Qh (Qz (fun v16 hv16 => ?_)))))))
   obtain ⟨y16, rfl, hny16, hcy16, howy16⟩ := hv16
   exact Qh (Qi (Qx rfl (QJ rfl)))
  refine Ql (fun w82 c84 x83 hc085 hk86 => ?_) ?_
  ·refine Qh (Qh (Qh (Qh (Qh (Qh (Qz (fun v16 hv16 => ?_)))))))
   obtain ⟨y16, rfl, hny16, hcy16, howy16⟩ := hv16
   exact Qh (Qi (Qx rfl (Qy underlying210 rfl sizeOf114 rfl)))
  refine Ql (fun w88 c90 x89 hc091 hk92 => ?_) ?_
  ·refine Qh (Qz (fun v16 hv16 => ?_))
   obtain ⟨y16, rfl, hny16, hcy16, howy16⟩ := hv16
   refine Qh (Qh (Qh (Qh (Qh (Qz (fun v16 hv16 => ?_))))))
   obtain ⟨y16, rfl, hny16, hcy16, howy16⟩ := hv16
   refine Qh (Qi ?_)
   exact OpC_storeNew (kc := 3) (w0 := w1) (f := fun v => [.int .i64 64, .slice ap ps.length cp, v, .slice none 0 0, .slice sa srt.length sc]) (by decide) sizeOf114 rfl rfl (ho.blk (hk92 3 (by decide) (by kernel_rfl) _ ho.lt (by first | (simp [colAt]; done) | (simp [colAt]; omega)))) ((hc091 po ho.lt).trans (by first | (simp [colAt]; done) | (simp [colAt]; omega))) rfl hny16 hcy16 howy16 (by decide) rfl
  exact Q8
 case fin1 =>
  intro w94 c96 x95 hc097
  replace x95 := Bel.mono x95 (D' := fun g => g = po) omC
  have z98 := x95.size
  replace hX := Bel.out hX x95 om2
  replace hps := hps.keep x95 om3
  replace hsr := hsr.keep x95 om3
  replace hT := hT.keep x95 om1
  replace hb1 := hb1.keep x95 om1
  refine Qh (Qh (Qh (Qh (Qh (Qh (Qz (fun v16 hv16 => ?_)))))))
  obtain ⟨y16, rfl, hny16, hcy16, howy16⟩ := hv16
  refine Qh (Qh (Qh (Qh (Qz (fun v21 hv21 => ?_)))))
  obtain ⟨a21, rfl, hA21⟩ := hv21
  refine Qh (Qh (JG rfl (fun hst14 => Qi ?_)))
  obtain ⟨g21, rfl, hc21, hl21, hown21⟩ := Own.block hA21 (by decide)
  have hn21 : w1.heap.size ≤ g21 := Nat.le_of_not_lt (fun q => by have h := hc097 g21 q; rw [hc21] at h; by_cases e : g21 = po <;> simp [e] at h)
  obtain ⟨g16, ⟨ho, hcpo⟩, hn16, hc16, hown16⟩ := hst14
  have hl16 : g16 < w94.heap.size := hown16.lt g16 rfl
  have h1621 : g16 ≠ g21 := fun e => by rw [e, hc21] at hc16; cases hc16
  refine Rr (QJ rfl) (Rr (Qy underlying210 rfl sizeOf114 rfl) (Q6 (v := .slice _ _ _) rfl sizeOf114 rfl rfl ho rfl rfl rfl ?_))
  intro w99 c100 ho
  have z101 := Bel.size c100
  replace hX := Bel.out hX c100 om2
  replace hps := hps.keep c100 om3
  replace hsr := hsr.keep c100 om3
  replace hT := hT.keep c100 om1
  replace hb1 := hb1.keep c100 om1
  replace hown21 := hown21.keepD c100 om3
  replace hown16 := hown16.keepD c100 om3
  refine Qc (Qf (Qb (Rr (Qm isAgg128 rfl (hb1.at.get 0 rfl)) (Rr (QJ rfl) (Rr (Qy underlying210 rfl sizeOf3 rfl) (Rr (Qm isAgg3 rfl (ho.at.get 0 rfl)) (Z8 (m := 64) dz rfl Y3 el_dir rfl rfl rfl (by decide) ?_)))))))
  intro a30 w102 x103 hown30
  have z104 := x103.size
  replace hX := hX.ex x103
  replace hps := hps.ext x103
  replace hsr := hsr.ext x103
  replace hT := hT.ext x103
  replace hb1 := hb1.ext x103
  replace hown21 := hown21.ext x103
  replace ho := ho.ext x103
  replace hown16 := hown16.ext x103
  obtain ⟨g30, ha30, hn30, hl30, hD30⟩ := hown30.block (by decide)
  subst ha30
  clear hown30
  have hown30 := hD30
  obtain ⟨n2, hn2⟩ : ∃ n, n = w102.heap.size := ⟨_, rfl⟩
  refine Rr (asS rfl) (Qc (Qf (Qf (Qb (Rr (Qm isAgg128 rfl (hb1.at.get 0 rfl)) (Rr (QJ rfl) (Rr (Qy underlying210 rfl sizeOf207 rfl) (Rr (Qm isAgg207 rfl (ho.at.get 1 rfl)) (Rr (QC underlying207 rfl) (Rr QP (Qc (Qt ?_))))))))))))
  refine QU (α := Nat) [(4, 4), (36, 53)] (fun k => [(36, .int .i64 (k : Int))]) (fun k w' => (k ≤ ps.length) ∧ Bel False (fun g => g = g30 ∨ n2 ≤ g) w102 w' ∧ (∃ ds : List DV, ds.length = 64 ∧ (∀ b : Fin 64, (ds.getD b.val dz).l = dlO (ps.take k) b) ∧ Own encDV 1 153 (fun g => g = g30) w' (.slice (some ⟨g30, 0, none⟩) 64 64) ds ∧ DirO 3 (fun g => n2 ≤ g) w' ds)) (fun k => ps.length - k) 0 ⟨rfl, trivial⟩ ⟨Nat.zero_le _, Bel.refl _ _, ⟨_, by simp, ds_start ps, hown30, DirO.start⟩⟩ ?_
  rintro k fb107 w106 ⟨hk, hXL105, ⟨ds, hdl, hds, hown30, hD⟩⟩
  have z108 := Bel.size hXL105
  replace hX := Bel.out hX hXL105 om2
  replace hps := hps.keep hXL105 om3
  replace hsr := hsr.keep hXL105 om3
  replace hT := hT.keep hXL105 om1
  replace hb1 := hb1.keep hXL105 om1
  replace hown21 := hown21.keepD hXL105 om3
  replace ho := ho.keep hXL105 om1
  replace hown16 := hown16.keepD hXL105 om3
  refine Qf (Qb (Rr (QM rfl rfl) (Qc (Qf (Qw rfl (fun hc1 => ?_) (fun hc1 => ?_))))))
  ·replace hc1 := dcT hc1
   refine Qp (Qf (Qt (Qf (Qb (Rr (QW underlying207 sizeOf208 hps rfl rfl omg) (Rr (QY isAgg208 sizeOf208 hps rfl (Ze pz0 (by omega))) (Zk rfl rfl zeroValue208 rfl sizeOf208 (fun _ => rfl) rfl rfl ?_)))))))
   intro b4 w109 x110 hge4 hb4
   have hlt4 := hb4.lt
   have z111 := x110.size
   replace hXL105 := Bel.ex hXL105 x110
   replace hown30 := hown30.ext x110
   replace hD := hD.ext x110
   refine Qc ?_
   have hxl : (ps.getD k pz0).2.val < ds.length := by have := (ps.getD k pz0).2.isLt; omega
   have hO := (hD _ _ (Ze dz hxl)).1
   have hll : (ds.getD (ps.getD k pz0).2.val dz).l.length ≤ ps.length := by rw [hds (ps.getD k pz0).2]; exact dl_len _ _ _
   obtain ⟨n5, hn5⟩ : ∃ n, n = w109.heap.size := ⟨_, rfl⟩
   apply Zl (β := False) (fun b => if (ds.getD (ps.getD k pz0).2.val dz).v.ownBlock = some b then 1 else 0) [peqC _, peqC _, peqC _, peqC _, peqC _, peqC _, peqC _, peqC _, peqC _, peqC _, (fun v w c => ∃ a, v = .slice a 1 1 ∧ postOwn encF 1 3 2 [(ps.getD k pz0).1] v w c), (postOwn encF 1 3 1 ((ds.getD (ps.getD k pz0).2.val dz).l ++ [(ps.getD k pz0).1]))] [0, 0, 0, 0, 0, 0, 0, 0, 0, 0, 2, 1] 12 QV (by kernel_rfl) (by kernel_rfl) rfl ⟨Qk _ _, Qk _ _, Qk _ _, Qk _ _, Qk _ _, Qk _ _, Qk _ _, Qk _ _, Qk _ _, Qk _ _, (ZJ), (Zc), trivial⟩ ?ob6 ?fin6
   case ob6 =>
    refine Ql (fun w112 c114 x113 hc0115 hk116 => Qi (Qx rfl (mvS rfl))) (Ql (fun w118 c120 x119 hc0121 hk122 => Qi (Qx rfl (ZO (i := 1) underlying208 sizeOf3 rfl rfl (by decide)))) (Ql (fun w124 c126 x125 hc0127 hk128 => ?_) ?_))
    ·replace x125 := Bel.mono x125 (D' := fun g => n2 ≤ g ∧ g ≠ b4) (fun g hg h => (by have h1 := Classical.byContradiction (p := (ds.getD (ps.getD k pz0).2.val dz).v.ownBlock = some g) (fun hn => h (if_neg hn)); exact ⟨hO.loc g h1, hO.notBox hb4 (by decide) g h1⟩))
     have hb4 := hb4.keep x125 om1
     exact Qh (Qi (Qx rfl (Qm isAgg3 rfl (hb4.at.get 1 rfl))))
    refine Ql (fun w130 c132 x131 hc0133 hk134 => Qi (Qx rfl (mvS rfl))) (Ql (fun w136 c138 x137 hc0139 hk140 => Qi (Qx rfl (ZO (i := 1) underlying208 sizeOf3 rfl rfl (by decide)))) (Ql (fun w142 c144 x143 hc0145 hk146 => ?_) ?_))
    ·replace x143 := Bel.mono x143 (D' := fun g => n2 ≤ g ∧ g ≠ b4) (fun g hg h => (by have h1 := Classical.byContradiction (p := (ds.getD (ps.getD k pz0).2.val dz).v.ownBlock = some g) (fun hn => h (if_neg hn)); exact ⟨hO.loc g h1, hO.notBox hb4 (by decide) g h1⟩))
     have hb4 := hb4.keep x143 om1
     exact Qh (Qi (Qx rfl (Qm isAgg3 rfl (hb4.at.get 1 rfl))))
    refine Ql (fun w148 c150 x149 hc0151 hk152 => ?_) ?_
    ·replace x149 := Bel.mono x149 (D' := fun g => n2 ≤ g ∧ g ≠ b4) (fun g hg h => (by have h1 := Classical.byContradiction (p := (ds.getD (ps.getD k pz0).2.val dz).v.ownBlock = some g) (fun hn => h (if_neg hn)); exact ⟨hO.loc g h1, hO.notBox hb4 (by decide) g h1⟩))
     have hown30 := hown30.keepD x149 om3
     exact Qh (Qh (Qi (Qx rfl (ZE (i := (ps.getD k pz0).2.val) underlying271 sizeOf153 hown30 rfl rfl (by omega)))))
    refine Ql (fun w154 c156 x155 hc0157 hk158 => ?_) ?_
    ·replace x155 := Bel.mono x155 (D' := fun g => n2 ≤ g ∧ g ≠ b4) (fun g hg h => (by have h1 := Classical.byContradiction (p := (ds.getD (ps.getD k pz0).2.val dz).v.ownBlock = some g) (fun hn => h (if_neg hn)); exact ⟨hO.loc g h1, hO.notBox hb4 (by decide) g h1⟩))
     have hown30 := hown30.keepD x155 om3
     exact Qh (Qi (Qx rfl (Zx isAgg153 (hown30.slA Y3) rfl rfl (Ze dz hxl) rfl)))
    refine Ql (fun w160 c162 x161 hc0163 hk164 => Qi (Qx rfl (ZO (i := 0) underlying208 sizeOf3 rfl rfl (by decide)))) (Ql (fun w166 c168 x167 hc0169 hk170 => ?_) ?_)
    ·replace x167 := Bel.mono x167 (D' := fun g => n2 ≤ g ∧ g ≠ b4) (fun g hg h => (by have h1 := Classical.byContradiction (p := (ds.getD (ps.getD k pz0).2.val dz).v.ownBlock = some g) (fun hn => h (if_neg hn)); exact ⟨hO.loc g h1, hO.notBox hb4 (by decide) g h1⟩))
     have hb4 := hb4.keep x167 om1
     exact Qh (Qi (Qx rfl (Qm isAgg3 rfl (hb4.at.get 0 rfl))))
    refine Ql (fun w172 c174 x173 hc0175 hk176 => Qh (Qi (Jw (vs := [.int _ _]) [(ps.getD k pz0).1] J8 JT rfl rfl ⟨rfl, trivial⟩ rfl rfl rfl rfl))) (Ql (fun w178 c180 x179 hc0181 hk182 => ?_) ?_)
    ·refine Qh (Qz (fun v50 hv50 => Qi ?_))
     obtain ⟨a50, rfl, ho50⟩ := hv50
     exact Jg (by decide) J8 JT rfl rfl (Own.blk hO (fun g hg hl => hk182 1 (by decide) (by kernel_rfl) g hg (if_pos hl)) (fun g hg hl => (hc0181 g hg).trans (if_pos hl))) (Own.slA ho50 J8) rfl (by have := hll; show ((ds.getD (ps.getD k pz0).2.val dz).l.length + 1) * 8 ≤ 140737488355328; omega)
    exact Q8
   case fin6 =>
    intro w184 c186 x185 hc0187
    have xO := x185.mono (D' := fun g => (ds.getD (ps.getD k pz0).2.val dz).v.ownBlock = some g) (fun g hg h => Classical.byContradiction fun hn => h (if_neg hn))
    replace x185 := Bel.mono x185 (D' := fun g => n2 ≤ g ∧ g ≠ b4) (fun g hg h => (by have h1 := Classical.byContradiction (p := (ds.getD (ps.getD k pz0).2.val dz).v.ownBlock = some g) (fun hn => h (if_neg hn)); exact ⟨hO.loc g h1, hO.notBox hb4 (by decide) g h1⟩))
    have z188 := x185.size
    replace hXL105 := Bel.out hXL105 x185 om2
    replace hown30 := hown30.keepD x185 om3
    refine Qh (Qh (Qh (Qh (Qh (Qh (Qh (Qh (Qh (Qh (Qz (fun v50 hv50 => Qz (fun v51 hv51 => Qi ?_))))))))))))
    change Own _ _ _ _ _ _ _ at hv51
    obtain ⟨a51, c51, hv51e, -⟩ := Own.sl hv51 J8
    subst hv51e
    replace hv51 := Own.mono hv51 (D' := fun g => (ds.getD (ps.getD k pz0).2.val dz).v.ownBlock = some g ∨ n5 ≤ g) (fun g h1 h2 => (Nat.lt_or_ge g n5).elim (fun q => Or.inl (Classical.byContradiction fun hn => by have h := hc0187 g (by omega); rw [h2] at h; exact absurd (h.trans (if_neg hn)) (by decide))) Or.inr)
    have hD2 := DirO.set (d' := ⟨a51, c51, (ds.getD (ps.getD k pz0).2.val dz).l ++ [(ps.getD k pz0).1]⟩) hD (Ze dz hxl) (fun g h => by omega) (xO.mono (fun g _ h => Or.inl h)) (by rw [← hn5]; exact hv51)
    refine Rr (ZE (i := (ps.getD k pz0).2.val) underlying271 sizeOf153 hown30 rfl rfl (by omega)) (ZG (u := ⟨a51, c51, (ds.getD (ps.getD k pz0).2.val dz).l ++ [(ps.getD k pz0).1]⟩) rfl Y3 sizeOf153 rfl rfl rfl hown30 hxl ?_)
    intro w189 x190 hown30
    replace hXL105 := Bel.out hXL105 x190 om2
    replace hD2 := hD2.keep x190 (fun g h1 h2 h3 => by omega)
    refine Qc (Qb (Rr (QO rfl rfl omg) (Rr (mvI rfl) (Qc ⟨k + 1, ⟨sT, trivial⟩, oT, ⟨?_, hXL105, ?_⟩, ?_⟩))))
    ·show k + 1 ≤ ps.length; omega
    ·exact ⟨_, by simp [hdl], ds_set (by omega) hdl hds a51 c51, hown30, hD2⟩
    ·omega
  replace hc1 := dcF hc1
  refine QN (QI (Qf (Qb ?_)))
  obtain ⟨n3, hn3⟩ : ∃ n, n = w106.heap.size := ⟨_, rfl⟩
  replace hD := hD.mono (D' := fun g => n2 ≤ g ∧ g < n3) (fun g h1 h2 => ⟨h2, by omega⟩)
  rw [show k = ps.length by omega, List.take_length] at hds
  refine Rr (Qm isAgg128 rfl (hb1.at.get 0 rfl)) (Rr (QJ rfl) (Rr (Qy underlying210 rfl sizeOf153 rfl) (Rr (Qm isAgg153 rfl (ho.at.get 4 rfl)) (Rr (QC underlying153 rfl) (Rr QP (Qc (Qt ?_)))))))
  refine W_forD (α := Nat × List SV × List SV × List Nat) [(6, 6), (8, 8), (59, 103), (120, 120)] (fun q => [(59, .int .i64 (q.1 : Int))]) (fun q => q.2.2.2) (fun q w' => (q.1 ≤ 64 ∧ q.2.1.length = 64 ∧ q.2.2.1.length = 64 ∧ AbOk ps srt q.1 (xsO q.2.1) ∧ BeOk ps srt q.1 (xsO q.2.2.1) ∧ ∀ b, b ∈ q.2.2.2 → n3 ≤ b) ∧ Bel False (fun g => g = g16 ∨ g = g21 ∨ n3 ≤ g) w106 w' ∧ (Own encSV 1 32 (fun g => g = g16) w' (.slice (some ⟨g16, 0, none⟩) 64 64) q.2.1 ∧ Own encSV 1 32 (fun g => g = g21) w' (.slice (some ⟨g21, 0, none⟩) 64 64) q.2.2.1 ∧ WdsAt (fun g => n3 ≤ g) w' q.2.1 ∧ WdsAt (fun g => n3 ≤ g) w' q.2.2.1 ∧ Mks w' q.2.2.2)) (fun q => 64 - q.1) (0, List.replicate 64 sz, List.replicate 64 sz, []) ⟨rfl, trivial⟩ rfl ⟨⟨by decide, by simp, by simp, AbOk.start (fun i h => xs_rep), BeOk.start (fun i h => xs_rep), by simp⟩, Bel.refl _ _, ⟨hown16, hown21, wds_rep, wds_rep, trivial⟩⟩ ?_
  rintro ⟨j, la, lb, ms⟩ fb194 w193 ⟨⟨hj, hla, hlb, hab, hbe, hms⟩, hXL192, ⟨hown16, hown21, hwa, hwb, hmk⟩⟩
  dsimp only at *
  have z195 := Bel.size hXL192
  replace hX := Bel.out hX hXL192 om2
  replace hsr := hsr.keep hXL192 om3
  replace hT := hT.keep hXL192 om1
  replace hb1 := hb1.keep hXL192 om1
  replace ho := ho.keep hXL192 om1
  replace hown30 := hown30.keepD hXL192 om3
  replace hD := hD.keep hXL192 (fun g h1 h2 h3 => by omega)
  refine Qf (Qb (Rr (QM rfl rfl) (Qc (Qf (Qw rfl (fun hc2 => ?_) (fun hc2 => ?_))))))
  ·replace hc2 := dcT hc2
   refine Qp (Qf (Qt (Qf (Qb ?_))))
   obtain ⟨b, hb⟩ : ∃ b, srt[j]? = some b := ⟨_, List.getElem?_eq_getElem (by omega)⟩
   have hbl := b.isLt
   refine Rr (QW underlying153 sizeOf3 hsr rfl rfl omg) (Rr (Zx isAgg3 hsr rfl rfl hb rfl) (Zk rfl rfl zeroValue3 rfl sizeOf3 (fun _ => rfl) rfl rfl ?_))
   intro b6 w196 x197 hge6 hb6
   have hlt6 := hb6.lt
   have z198 := x197.size
   replace hX := hX.ex x197
   replace hXL192 := Bel.ex hXL192 x197
   replace hT := hT.ext x197
   replace hb1 := hb1.ext x197
   replace ho := ho.ext x197
   replace hown30 := hown30.ext x197
   replace hD := hD.ext x197
   replace hown16 := hown16.ext x197
   replace hown21 := hown21.ext x197
   replace hwa := hwa.ext x197
   replace hwb := hwb.ext x197
   replace hmk := Mks.ext hmk x197
   refine Qc (Qf (Qf (Qb (Rr (mvS rfl) (Rr (Qm isAgg3 rfl (hb6.at.get 0 rfl)) (Rr (ZE (i := b.val) underlying271 sizeOf153 hown30 rfl rfl (by omega)) (Rr (Zx isAgg153 (hown30.slA Y3) rfl rfl (Ze dz (by omega)) rfl) ?_)))))))
   have hdb := Own.slA (hD _ _ (Ze dz (show b.val < ds.length by omega))).1 J8
   have hlb2 : (ds.getD b.val dz).l.length = (dlO ps b).length := by rw [hds b]
   refine Rr (QC underlying153 rfl) (Rr QP (Qc (Qt (QU (α := Nat × List SV) [(8, 8), (68, 95)] (fun p => [(68, .int .i64 (p.1 : Int))]) (fun p w' => (p.1 ≤ (dlO ps b).length ∧ p.2.length = 64 ∧ xsO p.2 b.val = upA ps (xsO la) b p.1 ∧ ∀ i, i ≠ b.val → xsO p.2 i = xsO la i) ∧ Bel False (fun g => g = g16) w196 w' ∧ (Own encSV 1 32 (fun g => g = g16) w' (.slice (some ⟨g16, 0, none⟩) 64 64) p.2 ∧ WdsAt (fun g => n3 ≤ g) w' p.2)) (fun p => (dlO ps b).length - p.1) (0, la) ⟨rfl, trivial⟩ ⟨⟨Nat.zero_le _, hla, (upA_zero _ _ _).symm, fun _ _ => rfl⟩, Bel.refl _ _, ⟨hown16, hwa⟩⟩ ?_))))
   rintro ⟨m, la2⟩ fb201 w200 ⟨⟨hm, hla2, hup, hoth⟩, hXL199, ⟨hown16, hwa⟩⟩
   dsimp only at *
   have z202 := Bel.size hXL199
   replace hX := Bel.out hX hXL199 om2
   replace hXL192 := Bel.out hXL192 hXL199 om2
   replace hT := hT.keep hXL199 om1
   replace hb1 := hb1.keep hXL199 om1
   replace ho := ho.keep hXL199 om1
   replace hD := hD.keep hXL199 (fun g h1 h2 h3 => by omega)
   replace hown21 := hown21.keepD hXL199 om3
   replace hwb := hwb.keep hXL199 om3
   replace hmk := hmk.kp hXL199 (fun g h1 h2 => by have := hms g h1; first | omega | (have := hmlt g h1; omega))
   replace hb6 := hb6.keep hXL199 om1
   refine Qf (Qb (Rr (QM rfl rfl) (Qc (Qf (Qw rfl (fun hc3 => ?_) (fun hc3 => ?_))))))
   ·replace hc3 := dcT hc3
    refine Qp (Qf (Qt (Qf (Qb ?_))))
    obtain ⟨a, ha0⟩ : ∃ a, (dlO ps b)[m]? = some a := ⟨_, List.getElem?_eq_getElem (by omega)⟩
    have ha : (ds.getD b.val dz).l[m]? = some a := by rw [hds b]; exact ha0
    have hal := a.isLt
    have hne : a.val ≠ b.val := fun e => by have := hρ _ (mem_dl.1 (List.mem_of_getElem? ha0)); rw [show a = b from Fin.ext e] at this; exact Nat.lt_irrefl _ this
    refine Rr (QW underlying153 sizeOf3 (Own.slA (hD _ _ (Ze dz (show b.val < ds.length by omega))).1 J8) rfl rfl omg) (Rr (Zx isAgg3 (Own.slA (hD _ _ (Ze dz (show b.val < ds.length by omega))).1 J8) rfl rfl ha rfl) (Rr (asI rfl) (Qc ?_)))
    apply Q3 (β := False) [peq _, peq _, peq _, peq _, peq _, peq _, peq _, peq _, peq _, peq _, peq _, peq _, peq _, peq _, peq _, peq _, peq _, peq _, peq _, (postSV (fun g => n3 ≤ g) ((la2.getD b.val sz).x ||| (la2.getD a.val sz).x)), peq _, (postSV (fun g => n3 ≤ g) (((la2.getD b.val sz).x ||| (la2.getD a.val sz).x) ||| oneW a.val)), peq _] 23 QV (by kernel_rfl) rfl ⟨Qd _, Qd _, Qd _, Qd _, Qd _, Qd _, Qd _, Qd _, Qd _, Qd _, Qd _, Qd _, Qd _, Qd _, Qd _, Qd _, Qd _, Qd _, Qd _, (Zf _ _), Qd _, (Zf _ _), Qd _, trivial⟩ ?ob14 ?fin14
    case ob14 =>
     refine Qg (fun w203 x204 => ?_) ?_
     ·have hb1 := hb1.ext x204
      exact Qe (Qn rfl (Qm isAgg128 rfl (hb1.at.get 0 rfl)))
     refine Qg (fun _ _ => Qa (Qe (Qn rfl (QJ rfl)))) (Qg (fun _ _ => Qa (Qe (Qn rfl (Qy underlying210 rfl sizeOf114 rfl)))) (Qg (fun w212 x213 => ?_) ?_))
     ·have ho := ho.ext x213
      exact Qa (Qe (Qn rfl (Qm isAgg114 rfl (ho.at.get 2 rfl))))
     refine Qg (fun w215 x216 => ?_) ?_
     ·have hb6 := hb6.ext x216
      exact Qe (Qn rfl (Qm isAgg3 rfl (hb6.at.get 0 rfl)))
     refine Qg (fun w218 x219 => ?_) ?_
     ·have hb1 := hb1.ext x219
      exact Qe (Qn rfl (Qm isAgg128 rfl (hb1.at.get 0 rfl)))
     refine Qg (fun _ _ => Qa (Qe (Qn rfl (QJ rfl)))) (Qg (fun _ _ => Qa (Qe (Qn rfl (Qy underlying210 rfl sizeOf114 rfl)))) (Qg (fun w227 x228 => ?_) ?_))
     ·have ho := ho.ext x228
      exact Qa (Qe (Qn rfl (Qm isAgg114 rfl (ho.at.get 2 rfl))))
     refine Qg (fun w230 x231 => ?_) ?_
     ·have hb6 := hb6.ext x231
      exact Qe (Qn rfl (Qm isAgg3 rfl (hb6.at.get 0 rfl)))
     refine Qg (fun w233 x234 => ?_) ?_
     ·have hown16 := hown16.ext x234
      exact Qa (Qa (Qe (Qn rfl (ZE (i := b.val) underlying114 sizeOf32 hown16 rfl rfl (by omega)))))
     refine Qg (fun w236 x237 => ?_) ?_
     ·have hown16 := hown16.ext x237
      exact Qa (Qe (Qn rfl (QY isAgg32 sizeOf32 (hown16.slA Q9) rfl (Ze sz (by omega)))))
     refine Qg (fun w239 x240 => ?_) ?_
     ·have hb1 := hb1.ext x240
      exact Qe (Qn rfl (Qm isAgg128 rfl (hb1.at.get 0 rfl)))
     refine Qg (fun _ _ => Qa (Qe (Qn rfl (QJ rfl)))) (Qg (fun _ _ => Qa (Qe (Qn rfl (Qy underlying210 rfl sizeOf114 rfl)))) (Qg (fun w248 x249 => ?_) ?_))
     ·have ho := ho.ext x249
      exact Qa (Qe (Qn rfl (Qm isAgg114 rfl (ho.at.get 2 rfl))))
     refine Qg (fun _ _ => Qe (Qn rfl (mvI rfl))) (Qg (fun w254 x255 => ?_) ?_)
     ·have hown16 := hown16.ext x255
      exact Qa (Qa (Qe (Qn rfl (ZE (i := a.val) underlying114 sizeOf32 hown16 rfl rfl (by omega)))))
     refine Qg (fun w257 x258 => ?_) ?_
     ·have hown16 := hown16.ext x258
      exact Qa (Qe (Qn rfl (QY isAgg32 sizeOf32 (hown16.slA Q9) rfl (Ze sz (by omega)))))
     refine Qg (fun w260 x261 => ?_) ?_
     ·have z262 := x261.size
      have hwa := hwa.ext x261
      exact Qa (Qa (Qe (ZK rfl (QB call53 rfl rfl) ((bor_ok _ ⟨_, _, _⟩ _ (hwa _ (gm (by omega))) ⟨_, _, _⟩ _ (hwa _ (gm (by omega)))).mono (fun v w2 ⟨x, c, e, h, y⟩ => ⟨y, x, c, e, h.mono (fun g h1 h2 => by omega)⟩)))))
     refine Qg (fun _ _ => Qe (Qn rfl (mvI rfl))) (Qg (fun w266 x267 => ?_) ?_)
     ·have z268 := x267.size
      refine QQ (fun v91 hv91 => ?_)
      obtain ⟨a91, c91, rfl, hq91⟩ := hv91
      refine Qa (QQ (fun v91 hv91 => ?_))
      obtain ⟨a91, c91, rfl, hq91⟩ := hv91
      exact Qe (ZK rfl (QB call55 rfl rfl) ((JX _ ⟨_, _, _⟩ _ hq91 a.val hal).mono (fun v w2 ⟨x, c, e, h, y⟩ => ⟨y, x, c, e, h.mono (fun g h1 h2 => h2.elim (fun h => h) (fun h => by omega))⟩)))
     refine Qg (fun w269 x270 => ?_) ?_
     ·have hown16 := hown16.ext x270
      refine Qa (Qa (Qa (Qa (Qa (Qa (Qa (Qa (Qa (Qa (Qa (Qa (Qa (Qa (Qa (Qa (Qa (Qa (Qa (Qa (Qa (QQ (fun v91 hv91 => ?_))))))))))))))))))))))
      obtain ⟨a91, c91, rfl, hq91⟩ := hv91
      refine Qa (QQ (fun v93 hv93 => ?_))
      obtain ⟨a93, c93, rfl, hq93⟩ := hv93
      exact Qe (Qn rfl (ZE (i := b.val) underlying114 sizeOf32 hown16 rfl rfl (by omega)))
     exact QR
    case fin14 =>
     intro w272 x273
     have z274 := x273.size
     replace hXL199 := Bel.ex hXL199 x273
     replace hown16 := hown16.ext x273
     replace hwa := hwa.ext x273
     refine Qa (Qa (Qa (Qa (Qa (Qa (Qa (Qa (Qa (Qa (Qa (Qa (Qa (Qa (Qa (Qa (Qa (Qa (Qa (QQ (fun v91 hv91 => ?_))))))))))))))))))))
     obtain ⟨a91, c91, rfl, hq91⟩ := hv91
     refine Qa (QQ (fun v93 hv93 => ?_))
     obtain ⟨a93, c93, rfl, hq93⟩ := hv93
     refine Qa (Qe (ZG (u := ⟨a93, c93, ((la2.getD b.val sz).x ||| (la2.getD a.val sz).x) ||| oneW a.val⟩) rfl Q9 sizeOf32 rfl rfl rfl hown16 (by omega) ?_))
     intro w275 x276 hown16
     have z277 := x276.size
     replace hXL199 := Bel.out hXL199 x276 om2
     replace hwa := hwa.keep x276 om3
     replace hq93 := hq93.keep x276 om3
     refine Qc (Qb ?_)
     refine Rr (QO rfl rfl (by have h7 := (List.getElem?_eq_some_iff.1 ha0).1; have h8 := dl_len ps ps.length b; rw [List.take_length] at h8; unfold I64; omega)) ?_
     refine Rr (mvI rfl) (Qc ⟨(m + 1, la2.set b.val ⟨a93, c93, ((la2.getD b.val sz).x ||| (la2.getD a.val sz).x) ||| oneW a.val⟩), ⟨sT, trivial⟩, oT, ⟨?_, hXL199, ?_⟩, ?_⟩)
     ·exact ⟨by show m + 1 ≤ _; have := (List.getElem?_eq_some_iff.1 ha0).1; omega, by simp [hla2], by rw [xs_set (by omega), if_pos rfl, upA_succ ha0, ← hup, ← hoth _ hne]; rfl, fun i hi => by rw [xs_set (by omega), if_neg hi]; exact hoth i hi⟩
     ·exact ⟨hown16, hwa.set hq93⟩
     ·show (dlO ps b).length - (m + 1) < _; omega
   replace hc3 := dcF hc3
   refine QN (QI (Qf ?_))
   have hab2 : AbOk ps srt (j + 1) (xsO la2) := hab.next ht hb (fun i _ => by
    by_cases e : i = b.val
    ·rw [if_pos e, e, hup, show m = (dlO ps b).length by omega]
    ·rw [if_neg e]; exact hoth i e)
   obtain ⟨n6, hn6⟩ : ∃ n, n = w200.heap.size := ⟨_, rfl⟩
   apply Q3 (β := False) [peq _, peq _, peq _, peq _, peq _, peq _, peq _, (fun v w => ∃ z, v = .func (.func 208) #[] #[.pointer (some ⟨z, 0, none⟩)] ∧ n6 ≤ z ∧ At w z 0 (encSV (la2.getD b.val sz)))] 8 QV (by kernel_rfl) rfl ⟨Qd _, Qd _, Qd _, Qd _, Qd _, Qd _, Qd _, ((by rintro v w w2 ⟨z, h1, h2, h3⟩ x; exact ⟨z, h1, h2, h3.ext x⟩)), trivial⟩ ?ob16 ?fin16
   case ob16 =>
    refine Qg (fun w278 x279 => ?_) ?_
    ·have hb1 := hb1.ext x279
     exact Qe (Qn rfl (Qm isAgg128 rfl (hb1.at.get 0 rfl)))
    refine Qg (fun _ _ => Qa (Qe (Qn rfl (QJ rfl)))) (Qg (fun _ _ => Qa (Qe (Qn rfl (Qy underlying210 rfl sizeOf114 rfl)))) (Qg (fun w287 x288 => ?_) ?_))
    ·have ho := ho.ext x288
     exact Qa (Qe (Qn rfl (Qm isAgg114 rfl (ho.at.get 2 rfl))))
    refine Qg (fun w290 x291 => ?_) ?_
    ·have hb6 := hb6.ext x291
     exact Qe (Qn rfl (Qm isAgg3 rfl (hb6.at.get 0 rfl)))
    refine Qg (fun w293 x294 => ?_) ?_
    ·have hown16 := hown16.ext x294
     exact Qa (Qa (Qe (Qn rfl (ZE (i := b.val) underlying114 sizeOf32 hown16 rfl rfl (by omega)))))
    refine Qg (fun w296 x297 => ?_) ?_
    ·have hown16 := hown16.ext x297
     exact Qa (Qe (Qn rfl (QY isAgg32 sizeOf32 (hown16.slA Q9) rfl (Ze sz (by omega)))))
    refine Qg (fun w299 x300 => ?_) ?_
    ·have z301 := x300.size
     have hwa := hwa.ext x300
     exact Qa (Qe (ZK rfl (QD call171 rfl) ((ball_ok _ ⟨_, _, _⟩ _ (hwa _ (gm (by omega)))).mono (fun v w2 ⟨z, e, h, h2, y⟩ => ⟨y, z, e, by omega, h2⟩))))
    exact QR
   case fin16 =>
    intro w302 x303
    have z304 := x303.size
    replace hX := hX.ex x303
    replace hXL192 := Bel.ex hXL192 x303
    replace hT := hT.ext x303
    replace hb1 := hb1.ext x303
    replace ho := ho.ext x303
    replace hown21 := hown21.ext x303
    replace hwb := hwb.ext x303
    replace hmk := Mks.ext hmk x303
    replace hb6 := hb6.ext x303
    replace hown16 := hown16.ext x303
    replace hwa := hwa.ext x303
    refine Qa (Qa (Qa (Qa (Qa (Qa (Qa (QQ (fun v103 hv103 => ?_))))))))
    obtain ⟨b103, rfl, hge103, hb103⟩ := hv103
    have hlt103 := hb103.lt
    refine Qe (Qc (Qt ?_))
    obtain ⟨m0, hm0⟩ : ∃ m, m = w302.heap.size := ⟨_, rfl⟩
    have hmlt : ∀ t, t ∈ ms → t < m0 := fun t ht => by have := Mks.lt hmk t ht; omega
    replace hwa := hwa.mono (F' := fun g => n3 ≤ g ∧ g < m0) (fun g h1 h2 => ⟨h2, by omega⟩)
    refine W_range (memW (xsO la2 b.val) 64) (fun i => Value.int .i64 i) (fun g => g = g21) (fun i w' => Bel False (fun g => g = g21) w302 w' ∧ ∃ lb2 : List SV, lb2.length = 64 ∧ (∀ t : Nat, t < 64 → xsO lb2 t = if (t : Int) ∈ (memW (xsO la2 b.val) 64).take i then xsO lb t ||| oneW b.val else xsO lb t) ∧ Own encSV 1 32 (fun g => g = g21) w' (.slice (some ⟨g21, 0, none⟩) 64 64) lb2 ∧ WdsAt (fun g => (n3 ≤ g ∧ g < m0) ∨ m0 + 2 ≤ g) w' lb2) rfl rfl call208 (ball_iter _ _ (la2.getD b.val sz) _ _ hb103 (hwa _ (gm (by omega))) hT (by omega) (by omega) (fun g h1 h2 h3 => by omega)) (fun g h => by omega) (fun i a b hsz hi x => ?_) (fun a x hsz => ?_) (fun l i y w305 hy hsz hi => ?_) (fun w306 hsz hi hmkm0 => ?_)
    ·obtain ⟨hB, ⟨lb2, hlb2, hlv, hown21, hwb⟩⟩ := hi; exact ⟨Bel.out hB x (fun g h1 h2 => by omega), _, hlb2, hlv, hown21.keepD x (fun g h1 h2 h3 => by omega), hwb.keep x (fun g h1 h2 h3 => by omega)⟩
    ·exact ⟨x.mono fun _ _ h => h.elim, _, hlb, fun t _ => by simp, hown21.ext x, (hwb.mono (fun g h1 h2 => Or.inl ⟨h2, by omega⟩)).ext x⟩
    ·obtain ⟨hXR307, ⟨lb2, hlb2, hlv, hown21, hwb⟩⟩ := hi
     have z308 := Bel.size hXR307
     replace hX := Bel.out hX hXR307 om2
     replace hXL192 := Bel.out hXL192 hXR307 om2
     replace hb1 := hb1.keep hXR307 om1
     replace ho := ho.keep hXR307 om1
     replace hmk := hmk.kp hXR307 (fun g h1 h2 => by have := hms g h1; first | omega | (have := hmlt g h1; omega))
     replace hb6 := hb6.keep hXR307 om1
     obtain ⟨yn, rfl⟩ : ∃ n : Nat, y = n := ⟨y.toNat, by have := memW_ok _ y (List.mem_of_getElem? hy); omega⟩
     have hyl : yn < 64 := by have := memW_ok _ _ (List.mem_of_getElem? hy); omega
     refine Qb (Rr (asI rfl) (Qc ⟨Ext.rfl' _, fun w309 x310 => ?_⟩))
     have z311 := x310.size
     replace hb1 := hb1.keep x310 om1
     replace ho := ho.keep x310 om1
     replace hb6 := hb6.keep x310 om1
     replace hown21 := hown21.keepD x310 om3
     replace hwb := hwb.keep x310 om3
     have hXB : Bel False (fun g => g = g21) w309 w309 := Bel.refl _ _
     refine Qt ?_
     apply Q3 (β := False) [peq _, peq _, peq _, peq _, peq _, peq _, peq _, peq _, peq _, peq _, peq _, peq _, peq _, (postSV (fun g => (n3 ≤ g ∧ g < m0) ∨ m0 + 2 ≤ g) ((lb2.getD yn sz).x ||| oneW b.val)), peq _] 15 QV (by kernel_rfl) rfl ⟨Qd _, Qd _, Qd _, Qd _, Qd _, Qd _, Qd _, Qd _, Qd _, Qd _, Qd _, Qd _, Qd _, (Zf _ _), Qd _, trivial⟩ ?ob18 ?fin18
     case ob18 =>
      refine Qg (fun w312 x313 => ?_) ?_
      ·have hb1 := hb1.ext x313
       exact Qe (Qn rfl (Qm isAgg128 rfl (hb1.at.get 0 rfl)))
      refine Qg (fun _ _ => Qa (Qe (Qn rfl (QJ rfl)))) (Qg (fun _ _ => Qa (Qe (Qn rfl (Qy underlying210 rfl sizeOf114 rfl)))) (Qg (fun w321 x322 => ?_) ?_))
      ·have ho := ho.ext x322
       exact Qa (Qe (Qn rfl (Qm isAgg114 rfl (ho.at.get 3 rfl))))
      refine Qg (fun _ _ => Qe (Qn rfl (mvI rfl))) (Qg (fun w327 x328 => ?_) ?_)
      ·have hb1 := hb1.ext x328
       exact Qe (Qn rfl (Qm isAgg128 rfl (hb1.at.get 0 rfl)))
      refine Qg (fun _ _ => Qa (Qe (Qn rfl (QJ rfl)))) (Qg (fun _ _ => Qa (Qe (Qn rfl (Qy underlying210 rfl sizeOf114 rfl)))) (Qg (fun w336 x337 => ?_) ?_))
      ·have ho := ho.ext x337
       exact Qa (Qe (Qn rfl (Qm isAgg114 rfl (ho.at.get 3 rfl))))
      refine Qg (fun _ _ => Qe (Qn rfl (mvI rfl))) (Qg (fun w342 x343 => ?_) ?_)
      ·have hown21 := hown21.ext x343
       exact Qa (Qa (Qe (Qn rfl (ZE (i := yn) underlying114 sizeOf32 hown21 rfl rfl (by omega)))))
      refine Qg (fun w345 x346 => ?_) ?_
      ·have hown21 := hown21.ext x346
       exact Qa (Qe (Qn rfl (QY isAgg32 sizeOf32 (hown21.slA Q9) rfl (Ze sz (by omega)))))
      refine Qg (fun w348 x349 => ?_) ?_
      ·have hb6 := hb6.ext x349
       exact Qe (Qn rfl (Qm isAgg3 rfl (hb6.at.get 0 rfl)))
      refine Qg (fun w351 x352 => ?_) ?_
      ·have z353 := x352.size
       have hwb := hwb.ext x352
       exact Qa (Qa (Qe (ZK rfl (QB call55 rfl rfl) ((JX _ ⟨_, _, _⟩ _ (hwb _ (gm (by omega))) b.val hbl).mono (fun v w2 ⟨x, c, e, h, y⟩ => ⟨y, x, c, e, h.mono (fun g h1 h2 => h2.elim (fun h => h) (fun h => by omega))⟩)))))
      refine Qg (fun w354 x355 => ?_) ?_
      ·have hown21 := hown21.ext x355
       refine Qa (Qa (Qa (Qa (Qa (Qa (Qa (Qa (Qa (Qa (Qa (Qa (Qa (Qa (Qa (QQ (fun v118 hv118 => ?_))))))))))))))))
       obtain ⟨a118, c118, rfl, hq118⟩ := hv118
       exact Qe (Qn rfl (ZE (i := yn) underlying114 sizeOf32 hown21 rfl rfl (by omega)))
      exact QR
     case fin18 =>
      intro w357 x358
      have z359 := x358.size
      replace hXB := Bel.ex hXB x358
      replace hown21 := hown21.ext x358
      replace hwb := hwb.ext x358
      refine Qa (Qa (Qa (Qa (Qa (Qa (Qa (Qa (Qa (Qa (Qa (Qa (Qa (QQ (fun v118 hv118 => ?_))))))))))))))
      obtain ⟨a118, c118, rfl, hq118⟩ := hv118
      refine Qa (Qe (ZG (u := ⟨a118, c118, (lb2.getD yn sz).x ||| oneW b.val⟩) rfl Q9 sizeOf32 rfl rfl rfl hown21 (by omega) ?_))
      intro w360 x361 hown21
      have z362 := x361.size
      replace hXB := Bel.out hXB x361 om2
      replace hwb := hwb.keep x361 om3
      replace hq118 := hq118.keep x361 om3
      refine Qc ⟨hXB, Bel.out (Bel.out hXR307 x310 (fun g h1 h2 => by omega)) hXB (fun g h1 h2 => by first | exact h2 | omega), ?_⟩
      refine ⟨lb2.set yn ⟨a118, c118, (lb2.getD yn sz).x ||| oneW b.val⟩, by simp [hlb2], fun t ht => ?_, hown21, hwb.set hq118⟩
      rw [xs_set (by omega), be_step (memW_nodup _) hy]
      by_cases e : t = yn
      ·subst e
       rw [if_pos rfl, if_pos rfl]
       have h5 := hlv t ht
       rw [if_neg (not_in_takeA (memW_nodup _) hy)] at h5
       rw [← h5]; rfl
      ·rw [if_neg e, if_neg (by omega), hlv t ht]
    obtain ⟨hXR363, ⟨lb2, hlb2, hlv, hown21, hwb⟩⟩ := hi
    have z364 := Bel.size hXR363
    replace hX := Bel.out hX hXR363 om2
    replace hXL192 := Bel.out hXL192 hXR363 om2
    replace hmk := hmk.kp hXR363 (fun g h1 h2 => by have := hms g h1; first | omega | (have := hmlt g h1; omega))
    replace hown16 := hown16.keepD hXR363 om3
    replace hwa := hwa.keep hXR363 om3
    rw [List.take_length] at hlv
    replace hwa := hwa.mono (F' := fun g => n3 ≤ g) (fun g _ h => h.1)
    replace hwb := hwb.mono (F' := fun g => n3 ≤ g) (fun g _ h => by omega)
    rw [← hm0]
    replace hmk : Mks w306 (m0 :: ms) := ⟨fun h => Nat.lt_irrefl _ (hmlt _ h), (congrArg (fun k => w306.heap[k]?) hm0).trans hmkm0, hmk⟩
    refine Qb (Rr (QO rfl rfl omg) (Rr (mvI rfl) (Qc ⟨(j + 1, la2, lb2, m0 :: ms), ⟨sT, trivial⟩, ?_, rfl, ⟨?_, hXL192, ?_⟩, ?_⟩)))
    ·refine offS_of ?_; repeat (first | exact offS_refl _ _ | exact offS_mixR | refine offS_put rfl ?_ | refine offS_putN ?_ | refine offS_mark ?_ | refine offS_wds ?_ | refine offS_setL rfl ?_ | refine offS_mix rfl ?_)
    ·exact ⟨by show j + 1 ≤ 64; omega, hla2, hlb2, hab2, hbe.next ht hb hab2 hlv, fun t h => (List.mem_cons.1 h).elim (fun e => by omega) (hms t)⟩
    ·exact ⟨hown16, hown21, hwa, hwb, hmk⟩
    ·show 64 - (j + 1) < 64 - j; omega
  replace hc2 := dcF hc2
  refine QN (QI ?_)
  obtain ⟨w365, hw365⟩ : ∃ u, u = shut w193 ms := ⟨_, rfl⟩
  have x366 : Bel False (fun g => g ∈ ms) w193 w365 := by rw [hw365]; exact shut_bel _ _
  refine ⟨ms, ?_⟩
  rw [← hw365]
  have hmk0 := hmk
  replace x366 := x366.mono (D' := fun g => n3 ≤ g) (fun g _ h => hms g h)
  replace hwa := hwa.shut hmk0
  rw [← hw365] at hwa
  replace hwb := hwb.shut hmk0
  rw [← hw365] at hwb
  have z367 := x366.size
  replace hX := Bel.out hX x366 om2
  replace ho := ho.keep x366 om1
  replace hown16 := hown16.keepD x366 om3
  replace hown21 := hown21.keepD x366 om3
  refine ⟨_, hmk0, YZ rfl, ?_⟩
  have hj64 : j = 64 := by omega
  subst hj64
  exact ⟨rfl, _, _, la, lb, ho, (hown16.slA Q9).mono (fun g h1 h2 => ⟨by omega, by omega⟩), (hown21.slA Q9).mono (fun g h1 h2 => ⟨by omega, by omega⟩), hwa.mono (fun g h1 h2 => ⟨by omega, h1⟩), hwb.mono (fun g h1 h2 => ⟨by omega, h1⟩), hla, hlb, ⟨hbe.done ht hl, hab.done ht hl⟩, hX.mono (fun g h1 h2 => by omega)⟩
