import Derived.Test.YtdjinmieogpgcaaGreatWide14
/- Quotients in memory: RatioMake. -/
namespace Go.Proofs.YtdjinmieogpgcaaGreat
open Go.RowKit
set_option linter.unusedVariables false
def RatioR (p : Nat → Prop) (w : World) (v : Value) (q : Rat) : Prop := ∃ (s : Int) (a : Option Addr) (n c : Nat) (s2 : Int) (a2 : Option Addr) (n2 c2 : Nat), v = .agg #[.int .i64 s, .slice a n c, .int .i64 s2, .slice a2 n2 c2] ∧ WideR p w (.agg #[.int .i64 s, .slice a n c]) q.num ∧ WideR p w (.agg #[.int .i64 s2, .slice a2 n2 c2]) (q.den : Int)
theorem RatioR.below {p : Nat → Prop} {w w' : World} {v : Value} {q : Rat} (h : RatioR p w v q) (hb : Below w.heap.size w w') : RatioR p w' v q := by
 obtain ⟨s, a, n, c, s2, a2, n2, c2, h1, h2, h3⟩ := h
 exact ⟨s, a, n, c, s2, a2, n2, c2, h1, h2.below hb, h3.below hb⟩
theorem RatioR.mono {p p' : Nat → Prop} {w : World} {v : Value} {q : Rat} (h : RatioR p w v q) (hb : ∀ b, p b → p' b) : RatioR p' w v q := by
 obtain ⟨s, a, n, c, s2, a2, n2, c2, h1, h2, h3⟩ := h
 exact ⟨s, a, n, c, s2, a2, n2, c2, h1, h2.mono hb, h3.mono hb⟩
theorem RatioR.kept {p : Nat → Prop} {w w' : World} {v : Value} {q : Rat} (h : RatioR p w v q) (hs : w.heap.size ≤ w'.heap.size) (hb : ∀ b, p b → w'.heap[b]? = w.heap[b]?) : RatioR p w' v q := by
 obtain ⟨s, a, n, c, s2, a2, n2, c2, h1, h2, h3⟩ := h
 exact ⟨s, a, n, c, s2, a2, n2, c2, h1, h2.kept hs hb, h3.kept hs hb⟩
theorem RatioR.here {p : Nat → Prop} {w : World} {v : Value} {q : Rat} (h : RatioR p w v q) : RatioR (fun b => p b ∧ b < w.heap.size) w v q := by
 obtain ⟨s, a, n, c, s2, a2, n2, c2, h1, h2, h3⟩ := h
 exact ⟨s, a, n, c, s2, a2, n2, c2, h1, h2.here, h3.here⟩
theorem gcd_one_div {x y : Int} (hy : 0 < y) (h : Int.gcd x y = 1) : (Rat.divInt x y).num = x ∧ ((Rat.divInt x y).den : Int) = y := by
 rw [rat_num hy, rat_den hy, h]
 simp
set_option maxHeartbeats 2000000 in
set_option maxRecDepth 100000 in
theorem ratioMake_any (p : Nat → Prop) (va vb : Value) (x y : Int) (K : Nat) (w : World) (h : WideR p w va x) (h' : WideR p w vb y) (hp : ∀ b, p b → b < w.heap.size) (hy0 : y ≠ 0) (hx : (x.natAbs : Int) < pw K) (hy : (y.natAbs : Int) < pw K) (hK : K ≤ 800000) :
    Calls Tryz.prog 143 #[va, vb] w fun e' w' => ∃ v', e' = .returned v' ∧ Below w.heap.size w w' ∧ RatioR (fun b => p b ∨ w.heap.size ≤ b) w' v' (Rat.divInt x y) := by
 have HP := Lib.hid hp
 have HA := Lib.hid h
 have HB := Lib.hid h'
 have HXK := Lib.hid (And.intro hx hy)
 obtain ⟨ab, nb, cb, l1, rfl, h2, h3, h4, h5, h6, h7⟩ := h
 obtain ⟨ac, nc, cc, l2, rfl, k2, k3, k4, k5, k6, k7⟩ := h'
 clear h2 h3 h4 h5 h6 h7 k2 k3 k4 k5 k6 k7 hx hy hp
 obtain ⟨q, hq⟩ : ∃ q, q = Rat.divInt x y := ⟨_, rfl⟩
 rw [← hq]
 have HQ := Lib.hid hq
 clear hq
 by_cases hyn : 0 < y
 ·have HSG := Lib.hid (fun (w' : World) (hb : Below w.heap.size w w') => wideSign_any p _ y w' (HB.out.below hb))
  rw [Int.sign_eq_one_of_pos hyn] at HSG HB ⊢
  obtain ⟨s, hs⟩ : ∃ s, s = x.sign := ⟨_, rfl⟩
  rw [← hs] at HA ⊢
  clear hs
  go_enter Tryz.func143, Tryz.ntmps143
  go_wp2_with fail
  refine (HSG.out _ (by (first|exact bwg|go_size))).mono ?_
  rintro e5 wb ⟨rfl, hbb⟩
  have hbb2 : Below w.heap.size w wb := Below.trans (show Below w.heap.size w _ by (first|exact bwg|go_size)) (hbb.mono (by simp; omega))
  have hzb := hbb.size
  simp only [World.size_alloc] at hzb
  have u0 : wb.cell? ⟨w.heap.size, 0, none⟩ = some (.int .i64 (s)) := bwc hbb; have u1 : wb.cell? ⟨w.heap.size, 1, none⟩ = some (.slice ab nb cb) := bwc hbb; have v0 : wb.cell? ⟨w.heap.size + 1, 0, none⟩ = some (.int .i64 (1)) := bwc hbb; have v1 : wb.cell? ⟨w.heap.size + 1, 1, none⟩ = some (.slice ac nc cc) := bwc hbb; have z0 : wb.cell? ⟨w.heap.size + 1 + 1, 0, none⟩ = some (.int .i64 0) := bwc hbb; have z1 : wb.cell? ⟨w.heap.size + 1 + 1, 1, none⟩ = some (.slice none 0 0) := bwc hbb; have z2 : wb.cell? ⟨w.heap.size + 1 + 1, 2, none⟩ = some (.int .i64 0) := bwc hbb; have z3 : wb.cell? ⟨w.heap.size + 1 + 1, 3, none⟩ = some (.slice none 0 0) := bwc hbb; have g0 : wb.frozen? ⟨w.heap.size, 0, none⟩ = false := bwf hbb; have g1 : wb.frozen? ⟨w.heap.size, 1, none⟩ = false := bwf hbb; have h0 : wb.frozen? ⟨w.heap.size + 1, 0, none⟩ = false := bwf hbb; have h1 : wb.frozen? ⟨w.heap.size + 1, 1, none⟩ = false := bwf hbb; have f0 : wb.frozen? ⟨w.heap.size + 1 + 1, 0, none⟩ = false := bwf hbb; have f1 : wb.frozen? ⟨w.heap.size + 1 + 1, 1, none⟩ = false := bwf hbb; have f2 : wb.frozen? ⟨w.heap.size + 1 + 1, 2, none⟩ = false := bwf hbb; have f3 : wb.frozen? ⟨w.heap.size + 1 + 1, 3, none⟩ = false := bwf hbb; have l0 : w.heap.size < wb.heap.size := by { omega }; have l1 : w.heap.size + 1 < wb.heap.size := by { omega }; have l2 : w.heap.size + 1 + 1 < wb.heap.size := by { omega }
  have HBb := Lib.hid hbb2
  have HU := Lib.hid ((HA.out.below hbb2).mono (q := fun b => p b ∨ w.heap.size + 3 ≤ b) (fun b hb => .inl hb))
  have HV := Lib.hid ((HB.out.below hbb2).mono (q := fun b => p b ∨ w.heap.size + 3 ≤ b) (fun b hb => .inl hb))
  have HXY := Lib.hid (And.intro HXK.out.1 (And.intro HXK.out.2 hyn))
  have HXD := Lib.hid HQ.out.symm
  clear hbb hbb2 HSG HA HB hyn hy0 HQ
  obtain ⟨X, rfl⟩ : ∃ X, X = x := ⟨_, rfl⟩
  obtain ⟨Y, rfl⟩ : ∃ Y, Y = y := ⟨_, rfl⟩
  have hnz : ∀ b, (p b ∨ w.heap.size + 3 ≤ b) → b ≠ w.heap.size ∧ b ≠ w.heap.size + 1 ∧ b ≠ w.heap.size + 1 + 1 := fun b hb => by
   rcases hb with hb | hb
   ·have := HP.out b hb; omega
   ·omega
  have HNZ := Lib.hid hnz
  clear hnz
  have HGC := Lib.hid (fun (w' : World) (hb : Below wb.heap.size wb w') => wideGcd_any (fun b => (p b ∨ w.heap.size + 3 ≤ b) ∧ b < wb.heap.size) _ _ X Y K w' (HU.out.here.below hb) (HV.out.here.below hb) (fun b hb2 => Nat.lt_of_lt_of_le hb2.2 hb.size) HXY.out.1 HXY.out.2.1 hK)
  go_wp2_with fail
  refine (HGC.out _ (Below.refl _ _)).mono ?_
  rintro eg wg ⟨vg, rfl, hbg, hG⟩
  have hgp := gcd_le_y (x := X) HXY.out.2.2
  have HGR := Lib.hid (hG.mono (q := fun b => p b ∨ w.heap.size + 3 ≤ b) (fun b hb => by
   rcases hb with hb | hb
   ·exact hb.1
   ·exact .inr (by omega))).here
  obtain ⟨ag, ng, cg, lg, rfl, _⟩ := hG
  obtain ⟨G, hGe⟩ : ∃ G, G = ((Int.gcd X Y : Nat) : Int) := ⟨_, rfl⟩
  obtain ⟨sg, hsg⟩ : ∃ s, s = G.sign := ⟨_, rfl⟩
  rw [← hGe] at HGR hgp ⊢
  rw [← hsg] at HGR ⊢
  have HGE := Lib.hid hGe
  have HGY := Lib.hid (And.intro hgp.1 hgp.2)
  clear hGe hsg hgp
  have hzg := hbg.size
  have u0c : wg.cell? ⟨w.heap.size, 0, none⟩ = some (.int .i64 (s)) := bwc hbg; have u1c : wg.cell? ⟨w.heap.size, 1, none⟩ = some (.slice ab nb cb) := bwc hbg; have v0c : wg.cell? ⟨w.heap.size + 1, 0, none⟩ = some (.int .i64 (1)) := bwc hbg; have v1c : wg.cell? ⟨w.heap.size + 1, 1, none⟩ = some (.slice ac nc cc) := bwc hbg; have z0c : wg.cell? ⟨w.heap.size + 1 + 1, 0, none⟩ = some (.int .i64 0) := bwc hbg; have z1c : wg.cell? ⟨w.heap.size + 1 + 1, 1, none⟩ = some (.slice none 0 0) := bwc hbg; have z2c : wg.cell? ⟨w.heap.size + 1 + 1, 2, none⟩ = some (.int .i64 0) := bwc hbg; have z3c : wg.cell? ⟨w.heap.size + 1 + 1, 3, none⟩ = some (.slice none 0 0) := bwc hbg; have g0c : wg.frozen? ⟨w.heap.size, 0, none⟩ = false := bwf hbg; have g1c : wg.frozen? ⟨w.heap.size, 1, none⟩ = false := bwf hbg; have h0c : wg.frozen? ⟨w.heap.size + 1, 0, none⟩ = false := bwf hbg; have h1c : wg.frozen? ⟨w.heap.size + 1, 1, none⟩ = false := bwf hbg; have f0c : wg.frozen? ⟨w.heap.size + 1 + 1, 0, none⟩ = false := bwf hbg; have f1c : wg.frozen? ⟨w.heap.size + 1 + 1, 1, none⟩ = false := bwf hbg; have f2c : wg.frozen? ⟨w.heap.size + 1 + 1, 2, none⟩ = false := bwf hbg; have f3c : wg.frozen? ⟨w.heap.size + 1 + 1, 3, none⟩ = false := bwf hbg; have l0c : w.heap.size < wg.heap.size := by { omega }; have l1c : w.heap.size + 1 < wg.heap.size := by { omega }; have l2c : w.heap.size + 1 + 1 < wg.heap.size := by { omega }
  have HBG := Lib.hid (HBb.out.trans (hbg.mono (by omega)))
  have HUG := Lib.hid (HU.out.below hbg).here
  have HVG := Lib.hid (HV.out.below hbg).here
  clear hbg HGC HU HV HBb
  clear u0 u1 v0 v1 z0 z1 z2 z3 g0 g1 h0 h1 f0 f1 f2 f3
  clear l0 l1 l2
  go_wp2_with fail
  generalize hW : World.alloc _ _ = wk
  have k0 : wk.cell? ⟨wg.heap.size, 0, none⟩ = some (.int .i64 sg) := by { rw [← hW]; clear hW; go_simp }
  have k1 : wk.cell? ⟨wg.heap.size, 1, none⟩ = some (.slice ag ng cg) := by { rw [← hW]; clear hW; go_simp }
  have lk : wg.heap.size < wk.heap.size := by rw [← hW]; simp
  have hbk : Below wg.heap.size wg wk := by rw [← hW]; exact (Below.refl _ _).alloc (Nat.le_refl _) _
  have hzk := hbk.size
  have u0d : wk.cell? ⟨w.heap.size, 0, none⟩ = some (.int .i64 (s)) := bwc hbk; have u1d : wk.cell? ⟨w.heap.size, 1, none⟩ = some (.slice ab nb cb) := bwc hbk; have v0d : wk.cell? ⟨w.heap.size + 1, 0, none⟩ = some (.int .i64 (1)) := bwc hbk; have v1d : wk.cell? ⟨w.heap.size + 1, 1, none⟩ = some (.slice ac nc cc) := bwc hbk; have z0d : wk.cell? ⟨w.heap.size + 1 + 1, 0, none⟩ = some (.int .i64 0) := bwc hbk; have z1d : wk.cell? ⟨w.heap.size + 1 + 1, 1, none⟩ = some (.slice none 0 0) := bwc hbk; have z2d : wk.cell? ⟨w.heap.size + 1 + 1, 2, none⟩ = some (.int .i64 0) := bwc hbk; have z3d : wk.cell? ⟨w.heap.size + 1 + 1, 3, none⟩ = some (.slice none 0 0) := bwc hbk; have g0d : wk.frozen? ⟨w.heap.size, 0, none⟩ = false := bwf hbk; have g1d : wk.frozen? ⟨w.heap.size, 1, none⟩ = false := bwf hbk; have h0d : wk.frozen? ⟨w.heap.size + 1, 0, none⟩ = false := bwf hbk; have h1d : wk.frozen? ⟨w.heap.size + 1, 1, none⟩ = false := bwf hbk; have f0d : wk.frozen? ⟨w.heap.size + 1 + 1, 0, none⟩ = false := bwf hbk; have f1d : wk.frozen? ⟨w.heap.size + 1 + 1, 1, none⟩ = false := bwf hbk; have f2d : wk.frozen? ⟨w.heap.size + 1 + 1, 2, none⟩ = false := bwf hbk; have f3d : wk.frozen? ⟨w.heap.size + 1 + 1, 3, none⟩ = false := bwf hbk; have l0d : w.heap.size < wk.heap.size := by { omega }; have l1d : w.heap.size + 1 < wk.heap.size := by { omega }; have l2d : w.heap.size + 1 + 1 < wk.heap.size := by { omega }
  have HBK := Lib.hid (HBG.out.trans (hbk.mono (by omega)))
  have HUK := Lib.hid (HUG.out.below hbk)
  have HVK := Lib.hid (HVG.out.below hbk)
  have HGK := Lib.hid (HGR.out.below hbk)
  clear u0c u1c v0c v1c z0c z1c z2c z3c g0c g1c h0c h1c f0c f1c f2c f3c
  clear l0c l1c l2c hW hbk HUG HVG HGR HBG
  refine wp_region_laterT (B := wk.heap.size) (.head 0 (.one 1 (.one 2 (.head 3 .done)))) (by kernel_rfl) (by kernel_rfl) ?_
  repeat (refine tree_head rfl ?_; (show wpQuiet _ _ _ _ (_ :: _) _; go_big_quiet_step (fail)); refine wpQuiet_nil ?_)
  refine tree_one rfl ?_; go_wp2_with fail
  refine (wideOfInt_any 1 _ (by omega) (by omega)).mono ?_
  rintro eo wo ⟨vo, rfl, hbo, hO⟩
  have hbo' : Below wk.heap.size wk wo := (Below.refl _ _).drew.trans hbo
  have HOR := Lib.hid hO.here
  obtain ⟨ao, no, co, lo, rfl, _⟩ := hO
  have HBO := Lib.hid hbo'
  have hzo := hbo'.size
  clear hbo hbo'
  go_wp2_with fail
  refine tailL_mk HBO.out ?_
  refine tree_one rfl ?_; go_wp2_with fail
  refine (wideCmp_any (fun b => b < wo.heap.size) _ _ G 1 (K + 1) wo ((HGK.out.below HBO.out).mono (fun b hb => by have := hb.2; omega)) (HOR.out.mono (fun b hb => hb.2)) (fun b hb => hb) (by have := HXY.out.2.1; have := HGY.out; have := pw_mono (m := K) (n := K + 1) (by omega); omega) (by have := pw_pos K; simp only [pw]; omega) (by omega)).mono ?_
  rintro ep wq ⟨rfl, hbq⟩
  have HBQ := Lib.hid (HBO.out.trans (hbq.mono hzo))
  clear hbq HOR
  obtain ⟨cs, hcs⟩ : ∃ cs, cs = (G - 1).sign := ⟨_, rfl⟩
  rw [← hcs]
  have HCS := Lib.hid hcs
  clear hcs
  go_wp2_with fail
  refine tailL_mk HBQ.out ?_
  repeat (refine tree_head rfl ?_; (show wpQuiet _ _ _ _ (_ :: _) _; go_big_quiet_step (fail)); refine wpQuiet_nil ?_)
  refine tree_done ?_
  have hbq := HBQ.out
  have hzq := hbq.size
  have k0q : wq.cell? ⟨wg.heap.size, 0, none⟩ = some (.int .i64 sg) := bwc hbq; have k1q : wq.cell? ⟨wg.heap.size, 1, none⟩ = some (.slice ag ng cg) := bwc hbq; have lkq : wg.heap.size < wq.heap.size := by { omega }
  have u0e : wq.cell? ⟨w.heap.size, 0, none⟩ = some (.int .i64 (s)) := bwc hbq; have u1e : wq.cell? ⟨w.heap.size, 1, none⟩ = some (.slice ab nb cb) := bwc hbq; have v0e : wq.cell? ⟨w.heap.size + 1, 0, none⟩ = some (.int .i64 (1)) := bwc hbq; have v1e : wq.cell? ⟨w.heap.size + 1, 1, none⟩ = some (.slice ac nc cc) := bwc hbq; have z0e : wq.cell? ⟨w.heap.size + 1 + 1, 0, none⟩ = some (.int .i64 0) := bwc hbq; have z1e : wq.cell? ⟨w.heap.size + 1 + 1, 1, none⟩ = some (.slice none 0 0) := bwc hbq; have z2e : wq.cell? ⟨w.heap.size + 1 + 1, 2, none⟩ = some (.int .i64 0) := bwc hbq; have z3e : wq.cell? ⟨w.heap.size + 1 + 1, 3, none⟩ = some (.slice none 0 0) := bwc hbq; have g0e : wq.frozen? ⟨w.heap.size, 0, none⟩ = false := bwf hbq; have g1e : wq.frozen? ⟨w.heap.size, 1, none⟩ = false := bwf hbq; have h0e : wq.frozen? ⟨w.heap.size + 1, 0, none⟩ = false := bwf hbq; have h1e : wq.frozen? ⟨w.heap.size + 1, 1, none⟩ = false := bwf hbq; have f0e : wq.frozen? ⟨w.heap.size + 1 + 1, 0, none⟩ = false := bwf hbq; have f1e : wq.frozen? ⟨w.heap.size + 1 + 1, 1, none⟩ = false := bwf hbq; have f2e : wq.frozen? ⟨w.heap.size + 1 + 1, 2, none⟩ = false := bwf hbq; have f3e : wq.frozen? ⟨w.heap.size + 1 + 1, 3, none⟩ = false := bwf hbq; have l0e : w.heap.size < wq.heap.size := by { omega }; have l1e : w.heap.size + 1 < wq.heap.size := by { omega }; have l2e : w.heap.size + 1 + 1 < wq.heap.size := by { omega }
  have HBW := Lib.hid (HBK.out.trans (hbq.mono (by omega)))
  have HUQ := Lib.hid (HUK.out.below hbq)
  have HVQ := Lib.hid (HVK.out.below hbq)
  have HGQ := Lib.hid (HGK.out.below hbq)
  clear u0d u1d v0d v1d z0d z1d z2d z3d g0d g1d h0d h1d f0d f1d f2d f3d
  clear l0d l1d l2d hbq HUK HVK HGK HBK HBO k0 k1 lk
  by_cases hcs0 : cs = 0
  ·have HG1 := Lib.hid (gcd_one_div HXY.out.2.2 (show Int.gcd X Y = 1 by
     have h1 := HCS.out
     rw [hcs0] at h1
     have h2 := Int.sign_eq_zero_iff_zero.1 h1.symm
     have h3 := HGE.out
     omega))
   subst hcs0
   go_wp2
   refine bodyPost_ret (v := .agg #[.int .i64 (s), .slice ab nb cb, .int .i64 (1), .slice ac nc cc]) (by simp [results, Tryz.results143, go_sem, *]) rfl ⟨_, rfl, ?_, ?_⟩
   ·exact (((HBW.out.setCell (by simp; omega) _).setCell (by simp; omega) _).setCell (by simp; omega) _).setCell (by simp; omega) _
   ·rw [← HXD.out]
    refine RatioR.mono (p := fun b => p b ∨ w.heap.size + 3 ≤ b) (RatioR.kept (w := wq) ⟨s, ab, nb, cb, 1, ac, nc, cc, rfl, by rw [HG1.out.1]; exact HUQ.out.mono (fun b hb => hb.1), by rw [HG1.out.2]; exact HVQ.out.mono (fun b hb => hb.1)⟩ (by simp) (fun b hb => ?_)) (fun b hb => hb.imp id (fun h => by omega))
    have hne := (HNZ.out b hb).2.2
    rw [Go.Deep.blk_setCell_other _ _ _ _ (by simpa using hne), Go.Deep.blk_setCell_other _ _ _ _ (by simpa using hne), Go.Deep.blk_setCell_other _ _ _ _ (by simpa using hne), Go.Deep.blk_setCell_other _ _ _ _ (by simpa using hne)]
  ·have hcsb : (cs == 0) = false := by simpa using hcs0
   clear hcs0
   go_wp2_with fail
   refine wp_region_laterY (B := wq.heap.size) [0, 1, 3, 4] [2, 5, 6] [7] (by kernel_rfl) (by kernel_rfl) ?_; simp only [List.filterMap_cons, List.filterMap_nil, List.getElem?_cons_zero, List.getElem?_cons_succ]; repeat (show wpQuiet _ _ _ _ (_ :: _) _; go_big_quiet_step (fail))
   refine wpQuiet_nil ?_
   refine tailY_cons ?_
   go_wp2_with fail
   refine (wideFloor_any (fun _ => True) _ _ X G K K wq.drew (HUQ.out.mono (fun _ _ => trivial)) (HGQ.out.mono (fun _ _ => trivial)) HGY.out.1 HXY.out.1 (by have := HXY.out.2.1; have := HGY.out; omega) (by omega) (by omega)).mono ?_
   rintro e1 w1 ⟨v1', rfl, hb1, hW1⟩
   have hb1' : Below wq.heap.size wq w1 := (Below.refl _ _).drew.trans hb1
   have HW1 := Lib.hid hW1.here
   obtain ⟨a1', n1', c1', l1', rfl, _⟩ := hW1
   have hz1 := hb1'.size
   have HB1 := Lib.hid hb1'
   clear hb1 hb1'
   obtain ⟨s1, hs1⟩ : ∃ s, s = (X / G).sign := ⟨_, rfl⟩
   rw [← hs1] at HW1 ⊢
   clear hs1
   go_wp2_with fail
   refine tailL_mk HB1.out ?_
   refine tailY_cons ?_
   go_wp2_with fail
   refine (wideFloor_any (fun _ => True) _ _ Y G K K w1 ((HVQ.out.below HB1.out).mono (fun _ _ => trivial)) ((HGQ.out.below HB1.out).mono (fun _ _ => trivial)) HGY.out.1 HXY.out.2.1 (by have := HXY.out.2.1; have := HGY.out; omega) (by omega) (by omega)).mono ?_
   rintro e2 w2 ⟨v2', rfl, hb2, hW2⟩
   have HW2 := Lib.hid hW2.here
   obtain ⟨a2', n2', c2', l2', rfl, _⟩ := hW2
   have hz2 := hb2.size
   have HB2 := Lib.hid (HB1.out.trans (hb2.mono hz1))
   have HW12 := Lib.hid (HW1.out.below hb2)
   have hbx := HB2.out
   have u0f : w2.cell? ⟨w.heap.size, 0, none⟩ = some (.int .i64 (s)) := bwc hbx; have u1f : w2.cell? ⟨w.heap.size, 1, none⟩ = some (.slice ab nb cb) := bwc hbx; have v0f : w2.cell? ⟨w.heap.size + 1, 0, none⟩ = some (.int .i64 (1)) := bwc hbx; have v1f : w2.cell? ⟨w.heap.size + 1, 1, none⟩ = some (.slice ac nc cc) := bwc hbx; have z0f : w2.cell? ⟨w.heap.size + 1 + 1, 0, none⟩ = some (.int .i64 0) := bwc hbx; have z1f : w2.cell? ⟨w.heap.size + 1 + 1, 1, none⟩ = some (.slice none 0 0) := bwc hbx; have z2f : w2.cell? ⟨w.heap.size + 1 + 1, 2, none⟩ = some (.int .i64 0) := bwc hbx; have z3f : w2.cell? ⟨w.heap.size + 1 + 1, 3, none⟩ = some (.slice none 0 0) := bwc hbx; have g0f : w2.frozen? ⟨w.heap.size, 0, none⟩ = false := bwf hbx; have g1f : w2.frozen? ⟨w.heap.size, 1, none⟩ = false := bwf hbx; have h0f : w2.frozen? ⟨w.heap.size + 1, 0, none⟩ = false := bwf hbx; have h1f : w2.frozen? ⟨w.heap.size + 1, 1, none⟩ = false := bwf hbx; have f0f : w2.frozen? ⟨w.heap.size + 1 + 1, 0, none⟩ = false := bwf hbx; have f1f : w2.frozen? ⟨w.heap.size + 1 + 1, 1, none⟩ = false := bwf hbx; have f2f : w2.frozen? ⟨w.heap.size + 1 + 1, 2, none⟩ = false := bwf hbx; have f3f : w2.frozen? ⟨w.heap.size + 1 + 1, 3, none⟩ = false := bwf hbx; have l0f : w.heap.size < w2.heap.size := by { omega }; have l1f : w.heap.size + 1 < w2.heap.size := by { omega }; have l2f : w.heap.size + 1 + 1 < w2.heap.size := by { omega }
   have HBF := Lib.hid (HBW.out.trans (hbx.mono (by omega)))
   clear u0e u1e v0e v1e z0e z1e z2e z3e g0e g1e h0e h1e f0e f1e f2e f3e
   clear hb2 hbx l0e l1e l2e HUQ HVQ HGQ k0q k1q
   obtain ⟨s2, hs2⟩ : ∃ s, s = (Y / G).sign := ⟨_, rfl⟩
   rw [← hs2] at HW2 ⊢
   clear hs2
   go_wp2_with fail
   refine tailL_mk HB2.out ?_
   refine tailY_cons ?_
   go_wp2_with fail
   refine tailL_mk HB2.out ?_
   refine tailY_ends ?_
   refine ends_cons ?_
   go_wp2_with fail
   refine tailZ_end ?_
   refine ends_nil ?_
   go_wp2
   refine bodyPost_ret (v := .agg #[.int .i64 s1, .slice a1' n1' c1', .int .i64 s2, .slice a2' n2' c2']) (by simp [results, Tryz.results143, go_sem, *]) rfl ⟨_, rfl, ?_, ?_⟩
   ·exact (((HBF.out.setCell (by simp; omega) _).setCell (by simp; omega) _).setCell (by simp; omega) _).setCell (by simp; omega) _
   ·rw [← HXD.out]
    refine RatioR.mono (p := fun b => w.heap.size + 3 ≤ b) (RatioR.kept (w := w2) ⟨s1, a1', n1', c1', s2, a2', n2', c2', rfl, by rw [rat_num HXY.out.2.2, ← HGE.out]; exact HW12.out.mono (fun b hb => by have := hb.1; simp at this; omega), by rw [rat_den HXY.out.2.2, ← HGE.out]; exact HW2.out.mono (fun b hb => by have := hb.1; omega)⟩ (by simp) (fun b hb => ?_)) (fun b hb => .inr (by omega))
    rw [Go.Deep.blk_setCell_other _ _ _ _ (by simp; omega), Go.Deep.blk_setCell_other _ _ _ _ (by simp; omega), Go.Deep.blk_setCell_other _ _ _ _ (by simp; omega), Go.Deep.blk_setCell_other _ _ _ _ (by simp; omega)]
 ·have hyp : 0 < -y := by omega
  have HNX := Lib.hid (fun (w' : World) (hb : Below w.heap.size w w') => wideNeg_any p _ x w' (HA.out.below hb))
  have HNY := Lib.hid (fun (w' : World) (hb : Below w.heap.size w w') => wideNeg_any p _ y w' (HB.out.below hb))
  have HSG := Lib.hid (fun (w' : World) (hb : Below w.heap.size w w') => wideSign_any p _ y w' (HB.out.below hb))
  rw [Int.sign_eq_neg_one_of_neg (show y < 0 by omega)] at HSG HNY ⊢
  obtain ⟨s, hs⟩ : ∃ s, s = x.sign := ⟨_, rfl⟩
  rw [← hs] at HNX ⊢
  clear hs
  go_enter Tryz.func143, Tryz.ntmps143
  go_wp2_with fail
  refine (HSG.out _ (by (first|exact bwg|go_size))).mono ?_
  rintro e5 w5 ⟨rfl, hb5⟩
  have hbb2 : Below w.heap.size w w5 := Below.trans (show Below w.heap.size w _ by (first|exact bwg|go_size)) (hb5.mono (by simp; omega))
  have hz5 := hb5.size
  simp only [World.size_alloc] at hz5
  have u0 : w5.cell? ⟨w.heap.size, 0, none⟩ = some (.int .i64 (s)) := bwc hb5; have u1 : w5.cell? ⟨w.heap.size, 1, none⟩ = some (.slice ab nb cb) := bwc hb5; have v0 : w5.cell? ⟨w.heap.size + 1, 0, none⟩ = some (.int .i64 (-1)) := bwc hb5; have v1 : w5.cell? ⟨w.heap.size + 1, 1, none⟩ = some (.slice ac nc cc) := bwc hb5; have z0 : w5.cell? ⟨w.heap.size + 1 + 1, 0, none⟩ = some (.int .i64 0) := bwc hb5; have z1 : w5.cell? ⟨w.heap.size + 1 + 1, 1, none⟩ = some (.slice none 0 0) := bwc hb5; have z2 : w5.cell? ⟨w.heap.size + 1 + 1, 2, none⟩ = some (.int .i64 0) := bwc hb5; have z3 : w5.cell? ⟨w.heap.size + 1 + 1, 3, none⟩ = some (.slice none 0 0) := bwc hb5; have g0 : w5.frozen? ⟨w.heap.size, 0, none⟩ = false := bwf hb5; have g1 : w5.frozen? ⟨w.heap.size, 1, none⟩ = false := bwf hb5; have h0 : w5.frozen? ⟨w.heap.size + 1, 0, none⟩ = false := bwf hb5; have h1 : w5.frozen? ⟨w.heap.size + 1, 1, none⟩ = false := bwf hb5; have f0 : w5.frozen? ⟨w.heap.size + 1 + 1, 0, none⟩ = false := bwf hb5; have f1 : w5.frozen? ⟨w.heap.size + 1 + 1, 1, none⟩ = false := bwf hb5; have f2 : w5.frozen? ⟨w.heap.size + 1 + 1, 2, none⟩ = false := bwf hb5; have f3 : w5.frozen? ⟨w.heap.size + 1 + 1, 3, none⟩ = false := bwf hb5; have l0 : w.heap.size < w5.heap.size := by { omega }; have l1 : w.heap.size + 1 < w5.heap.size := by { omega }; have l2 : w.heap.size + 1 + 1 < w5.heap.size := by { omega }
  have HB5 := Lib.hid hbb2
  clear hb5 hbb2 HSG HA HB
  go_wp2_with fail
  refine wp_region_laterY (B := w5.heap.size) [0, 2] [1, 3] [4, 5] (by kernel_rfl) (by kernel_rfl) ?_; simp only [List.filterMap_cons, List.filterMap_nil, List.getElem?_cons_zero, List.getElem?_cons_succ]; repeat (show wpQuiet _ _ _ _ (_ :: _) _; go_big_quiet_step (fail))
  refine wpQuiet_nil ?_
  refine tailY_cons ?_
  go_wp2_with fail
  refine (HNX.out _ HB5.out.drew).mono ?_
  rintro e7 w7 ⟨v7, rfl, hb7, hW7⟩
  have hb7' : Below w5.heap.size w5 w7 := (Below.refl _ _).drew.trans hb7
  have HW7 := Lib.hid hW7
  obtain ⟨a7, n7, c7, l7, rfl, _⟩ := hW7
  have hz7 := hb7'.size
  have HB7 := Lib.hid hb7'
  clear hb7 hb7' HNX
  obtain ⟨s7, hs7⟩ : ∃ s, s = (-x).sign := ⟨_, rfl⟩
  rw [← hs7] at HW7 ⊢
  clear hs7
  go_wp2_with fail
  refine tailL_mk HB7.out ?_
  refine tailY_cons ?_
  go_wp2_with fail
  refine (HNY.out _ (HB5.out.trans (HB7.out.mono (by omega)))).mono ?_
  rintro e8 w8 ⟨v8, rfl, hb8, hW8⟩
  have hb8' : Below w5.heap.size w5 w8 := HB7.out.trans (hb8.mono hz7)
  have HW8 := Lib.hid hW8
  have HW78 := Lib.hid (HW7.out.below hb8)
  obtain ⟨a8, n8, c8, l8, rfl, _⟩ := hW8
  have hz8 := hb8'.size
  have u0a : w8.cell? ⟨w.heap.size, 0, none⟩ = some (.int .i64 (s)) := bwc hb8'; have u1a : w8.cell? ⟨w.heap.size, 1, none⟩ = some (.slice ab nb cb) := bwc hb8'; have v0a : w8.cell? ⟨w.heap.size + 1, 0, none⟩ = some (.int .i64 (-1)) := bwc hb8'; have v1a : w8.cell? ⟨w.heap.size + 1, 1, none⟩ = some (.slice ac nc cc) := bwc hb8'; have z0a : w8.cell? ⟨w.heap.size + 1 + 1, 0, none⟩ = some (.int .i64 0) := bwc hb8'; have z1a : w8.cell? ⟨w.heap.size + 1 + 1, 1, none⟩ = some (.slice none 0 0) := bwc hb8'; have z2a : w8.cell? ⟨w.heap.size + 1 + 1, 2, none⟩ = some (.int .i64 0) := bwc hb8'; have z3a : w8.cell? ⟨w.heap.size + 1 + 1, 3, none⟩ = some (.slice none 0 0) := bwc hb8'; have g0a : w8.frozen? ⟨w.heap.size, 0, none⟩ = false := bwf hb8'; have g1a : w8.frozen? ⟨w.heap.size, 1, none⟩ = false := bwf hb8'; have h0a : w8.frozen? ⟨w.heap.size + 1, 0, none⟩ = false := bwf hb8'; have h1a : w8.frozen? ⟨w.heap.size + 1, 1, none⟩ = false := bwf hb8'; have f0a : w8.frozen? ⟨w.heap.size + 1 + 1, 0, none⟩ = false := bwf hb8'; have f1a : w8.frozen? ⟨w.heap.size + 1 + 1, 1, none⟩ = false := bwf hb8'; have f2a : w8.frozen? ⟨w.heap.size + 1 + 1, 2, none⟩ = false := bwf hb8'; have f3a : w8.frozen? ⟨w.heap.size + 1 + 1, 3, none⟩ = false := bwf hb8'; have l0a : w.heap.size < w8.heap.size := by { omega }; have l1a : w.heap.size + 1 < w8.heap.size := by { omega }; have l2a : w.heap.size + 1 + 1 < w8.heap.size := by { omega }
  have HB8 := Lib.hid hb8'
  clear u0 u1 v0 v1 z0 z1 z2 z3 g0 g1 h0 h1 f0 f1 f2 f3
  clear hb8 hb8' HNY HW7 l0 l1 l2
  obtain ⟨s8, hs8⟩ : ∃ s, s = (-y).sign := ⟨_, rfl⟩
  rw [← hs8] at HW8 ⊢
  clear hs8
  go_wp2_with fail
  refine tailL_mk HB8.out ?_
  refine tailY_ends ?_
  refine ends_cons ?_
  go_wp2_with fail
  refine tailZ_end ?_
  refine ends_cons ?_
  go_wp2_with fail
  refine tailZ_end ?_
  refine ends_nil ?_
  generalize hW : World.setCell _ _ _ = wb
  have u0 : wb.cell? ⟨w.heap.size, 0, none⟩ = some (.int .i64 (s7)) := by { rw [← hW]; clear hW; go_simp }
  have u1 : wb.cell? ⟨w.heap.size, 1, none⟩ = some (.slice a7 n7 c7) := by { rw [← hW]; clear hW; go_simp }
  have v0 : wb.cell? ⟨w.heap.size + 1, 0, none⟩ = some (.int .i64 (s8)) := by { rw [← hW]; clear hW; go_simp }
  have v1 : wb.cell? ⟨w.heap.size + 1, 1, none⟩ = some (.slice a8 n8 c8) := by { rw [← hW]; clear hW; go_simp }
  have z0 : wb.cell? ⟨w.heap.size + 1 + 1, 0, none⟩ = some (.int .i64 0) := by { rw [← hW]; clear hW; go_simp }
  have z1 : wb.cell? ⟨w.heap.size + 1 + 1, 1, none⟩ = some (.slice none 0 0) := by { rw [← hW]; clear hW; go_simp }
  have z2 : wb.cell? ⟨w.heap.size + 1 + 1, 2, none⟩ = some (.int .i64 0) := by { rw [← hW]; clear hW; go_simp }
  have z3 : wb.cell? ⟨w.heap.size + 1 + 1, 3, none⟩ = some (.slice none 0 0) := by { rw [← hW]; clear hW; go_simp }
  have g0 : wb.frozen? ⟨w.heap.size, 0, none⟩ = false := by { rw [← hW]; clear hW; go_simp }
  have g1 : wb.frozen? ⟨w.heap.size, 1, none⟩ = false := by { rw [← hW]; clear hW; go_simp }
  have h0 : wb.frozen? ⟨w.heap.size + 1, 0, none⟩ = false := by { rw [← hW]; clear hW; go_simp }
  have h1 : wb.frozen? ⟨w.heap.size + 1, 1, none⟩ = false := by { rw [← hW]; clear hW; go_simp }
  have f0 : wb.frozen? ⟨w.heap.size + 1 + 1, 0, none⟩ = false := by { rw [← hW]; clear hW; go_simp }
  have f1 : wb.frozen? ⟨w.heap.size + 1 + 1, 1, none⟩ = false := by { rw [← hW]; clear hW; go_simp }
  have f2 : wb.frozen? ⟨w.heap.size + 1 + 1, 2, none⟩ = false := by { rw [← hW]; clear hW; go_simp }
  have f3 : wb.frozen? ⟨w.heap.size + 1 + 1, 3, none⟩ = false := by { rw [← hW]; clear hW; go_simp }
  have hzb : wb.heap.size = w8.heap.size := by rw [← hW]; simp
  have hst : ∀ b, p b → wb.heap[b]? = w8.heap[b]? := fun b hb => by
   have := HP.out b hb
   rw [← hW, Go.Deep.blk_setCell_other _ _ _ _ (by simp; omega), Go.Deep.blk_setCell_other _ _ _ _ (by simp; omega), Go.Deep.blk_setCell_other _ _ _ _ (by simp; omega), Go.Deep.blk_setCell_other _ _ _ _ (by simp; omega)]
  have HU := Lib.hid ((HW78.out.kept (by omega) hst).mono (q := fun b => p b ∨ w.heap.size + 3 ≤ b) (fun b hb => .inl hb))
  have HV := Lib.hid ((HW8.out.kept (by omega) hst).mono (q := fun b => p b ∨ w.heap.size + 3 ≤ b) (fun b hb => .inl hb))
  have hb9 : Below w.heap.size w wb := by
   rw [← hW]
   exact ((((HB5.out.trans (HB8.out.mono (by omega))).setCell (by simp) _).setCell (by simp) _).setCell (by simp) _).setCell (by simp) _
  have HBb := Lib.hid hb9
  have l0 : w.heap.size < wb.heap.size := by omega
  have l1 : w.heap.size + 1 < wb.heap.size := by omega
  have l2 : w.heap.size + 1 + 1 < wb.heap.size := by omega
  have HXY := Lib.hid (show ((-x).natAbs : Int) < pw K ∧ ((-y).natAbs : Int) < pw K ∧ 0 < -y from ⟨by rw [Int.natAbs_neg]; exact HXK.out.1, by rw [Int.natAbs_neg]; exact HXK.out.2, hyp⟩)
  have HXD := Lib.hid (rat_neg.trans HQ.out.symm)
  clear hW hst hb9 HW78 HW8 HB7 HB8 HB5 hyp hyn hy0 HQ HXK
  clear u0a u1a v0a v1a z0a z1a z2a z3a g0a g1a h0a h1a f0a f1a f2a f3a
  have hzb' : w.heap.size + 3 ≤ wb.heap.size := by omega
  clear l0a l1a l2a hzb
  generalize -x = X at *
  generalize -y = Y at *
  have hnz : ∀ b, (p b ∨ w.heap.size + 3 ≤ b) → b ≠ w.heap.size ∧ b ≠ w.heap.size + 1 ∧ b ≠ w.heap.size + 1 + 1 := fun b hb => by
   rcases hb with hb | hb
   ·have := HP.out b hb; omega
   ·omega
  have HNZ := Lib.hid hnz
  clear hnz
  have HGC := Lib.hid (fun (w' : World) (hb : Below wb.heap.size wb w') => wideGcd_any (fun b => (p b ∨ w.heap.size + 3 ≤ b) ∧ b < wb.heap.size) _ _ X Y K w' (HU.out.here.below hb) (HV.out.here.below hb) (fun b hb2 => Nat.lt_of_lt_of_le hb2.2 hb.size) HXY.out.1 HXY.out.2.1 hK)
  go_wp2_with fail
  refine (HGC.out _ (Below.refl _ _)).mono ?_
  rintro eg wg ⟨vg, rfl, hbg, hG⟩
  have hgp := gcd_le_y (x := X) HXY.out.2.2
  have HGR := Lib.hid (hG.mono (q := fun b => p b ∨ w.heap.size + 3 ≤ b) (fun b hb => by
   rcases hb with hb | hb
   ·exact hb.1
   ·exact .inr (by omega))).here
  obtain ⟨ag, ng, cg, lg, rfl, _⟩ := hG
  obtain ⟨G, hGe⟩ : ∃ G, G = ((Int.gcd X Y : Nat) : Int) := ⟨_, rfl⟩
  obtain ⟨sg, hsg⟩ : ∃ s, s = G.sign := ⟨_, rfl⟩
  rw [← hGe] at HGR hgp ⊢
  rw [← hsg] at HGR ⊢
  have HGE := Lib.hid hGe
  have HGY := Lib.hid (And.intro hgp.1 hgp.2)
  clear hGe hsg hgp
  have hzg := hbg.size
  have u0c : wg.cell? ⟨w.heap.size, 0, none⟩ = some (.int .i64 (s7)) := bwc hbg; have u1c : wg.cell? ⟨w.heap.size, 1, none⟩ = some (.slice a7 n7 c7) := bwc hbg; have v0c : wg.cell? ⟨w.heap.size + 1, 0, none⟩ = some (.int .i64 (s8)) := bwc hbg; have v1c : wg.cell? ⟨w.heap.size + 1, 1, none⟩ = some (.slice a8 n8 c8) := bwc hbg; have z0c : wg.cell? ⟨w.heap.size + 1 + 1, 0, none⟩ = some (.int .i64 0) := bwc hbg; have z1c : wg.cell? ⟨w.heap.size + 1 + 1, 1, none⟩ = some (.slice none 0 0) := bwc hbg; have z2c : wg.cell? ⟨w.heap.size + 1 + 1, 2, none⟩ = some (.int .i64 0) := bwc hbg; have z3c : wg.cell? ⟨w.heap.size + 1 + 1, 3, none⟩ = some (.slice none 0 0) := bwc hbg; have g0c : wg.frozen? ⟨w.heap.size, 0, none⟩ = false := bwf hbg; have g1c : wg.frozen? ⟨w.heap.size, 1, none⟩ = false := bwf hbg; have h0c : wg.frozen? ⟨w.heap.size + 1, 0, none⟩ = false := bwf hbg; have h1c : wg.frozen? ⟨w.heap.size + 1, 1, none⟩ = false := bwf hbg; have f0c : wg.frozen? ⟨w.heap.size + 1 + 1, 0, none⟩ = false := bwf hbg; have f1c : wg.frozen? ⟨w.heap.size + 1 + 1, 1, none⟩ = false := bwf hbg; have f2c : wg.frozen? ⟨w.heap.size + 1 + 1, 2, none⟩ = false := bwf hbg; have f3c : wg.frozen? ⟨w.heap.size + 1 + 1, 3, none⟩ = false := bwf hbg; have l0c : w.heap.size < wg.heap.size := by { omega }; have l1c : w.heap.size + 1 < wg.heap.size := by { omega }; have l2c : w.heap.size + 1 + 1 < wg.heap.size := by { omega }
  have HBG := Lib.hid (HBb.out.trans (hbg.mono (by omega)))
  have HUG := Lib.hid (HU.out.below hbg).here
  have HVG := Lib.hid (HV.out.below hbg).here
  clear hbg HGC HU HV HBb
  clear u0 u1 v0 v1 z0 z1 z2 z3 g0 g1 h0 h1 f0 f1 f2 f3
  clear l0 l1 l2
  go_wp2_with fail
  generalize hW : World.alloc _ _ = wk
  have k0 : wk.cell? ⟨wg.heap.size, 0, none⟩ = some (.int .i64 sg) := by { rw [← hW]; clear hW; go_simp }
  have k1 : wk.cell? ⟨wg.heap.size, 1, none⟩ = some (.slice ag ng cg) := by { rw [← hW]; clear hW; go_simp }
  have lk : wg.heap.size < wk.heap.size := by rw [← hW]; simp
  have hbk : Below wg.heap.size wg wk := by rw [← hW]; exact (Below.refl _ _).alloc (Nat.le_refl _) _
  have hzk := hbk.size
  have u0d : wk.cell? ⟨w.heap.size, 0, none⟩ = some (.int .i64 (s7)) := bwc hbk; have u1d : wk.cell? ⟨w.heap.size, 1, none⟩ = some (.slice a7 n7 c7) := bwc hbk; have v0d : wk.cell? ⟨w.heap.size + 1, 0, none⟩ = some (.int .i64 (s8)) := bwc hbk; have v1d : wk.cell? ⟨w.heap.size + 1, 1, none⟩ = some (.slice a8 n8 c8) := bwc hbk; have z0d : wk.cell? ⟨w.heap.size + 1 + 1, 0, none⟩ = some (.int .i64 0) := bwc hbk; have z1d : wk.cell? ⟨w.heap.size + 1 + 1, 1, none⟩ = some (.slice none 0 0) := bwc hbk; have z2d : wk.cell? ⟨w.heap.size + 1 + 1, 2, none⟩ = some (.int .i64 0) := bwc hbk; have z3d : wk.cell? ⟨w.heap.size + 1 + 1, 3, none⟩ = some (.slice none 0 0) := bwc hbk; have g0d : wk.frozen? ⟨w.heap.size, 0, none⟩ = false := bwf hbk; have g1d : wk.frozen? ⟨w.heap.size, 1, none⟩ = false := bwf hbk; have h0d : wk.frozen? ⟨w.heap.size + 1, 0, none⟩ = false := bwf hbk; have h1d : wk.frozen? ⟨w.heap.size + 1, 1, none⟩ = false := bwf hbk; have f0d : wk.frozen? ⟨w.heap.size + 1 + 1, 0, none⟩ = false := bwf hbk; have f1d : wk.frozen? ⟨w.heap.size + 1 + 1, 1, none⟩ = false := bwf hbk; have f2d : wk.frozen? ⟨w.heap.size + 1 + 1, 2, none⟩ = false := bwf hbk; have f3d : wk.frozen? ⟨w.heap.size + 1 + 1, 3, none⟩ = false := bwf hbk; have l0d : w.heap.size < wk.heap.size := by { omega }; have l1d : w.heap.size + 1 < wk.heap.size := by { omega }; have l2d : w.heap.size + 1 + 1 < wk.heap.size := by { omega }
  have HBK := Lib.hid (HBG.out.trans (hbk.mono (by omega)))
  have HUK := Lib.hid (HUG.out.below hbk)
  have HVK := Lib.hid (HVG.out.below hbk)
  have HGK := Lib.hid (HGR.out.below hbk)
  clear u0c u1c v0c v1c z0c z1c z2c z3c g0c g1c h0c h1c f0c f1c f2c f3c
  clear l0c l1c l2c hW hbk HUG HVG HGR HBG
  refine wp_region_laterT (B := wk.heap.size) (.head 0 (.one 1 (.one 2 (.head 3 .done)))) (by kernel_rfl) (by kernel_rfl) ?_
  repeat (refine tree_head rfl ?_; (show wpQuiet _ _ _ _ (_ :: _) _; go_big_quiet_step (fail)); refine wpQuiet_nil ?_)
  refine tree_one rfl ?_; go_wp2_with fail
  refine (wideOfInt_any 1 _ (by omega) (by omega)).mono ?_
  rintro eo wo ⟨vo, rfl, hbo, hO⟩
  have hbo' : Below wk.heap.size wk wo := (Below.refl _ _).drew.trans hbo
  have HOR := Lib.hid hO.here
  obtain ⟨ao, no, co, lo, rfl, _⟩ := hO
  have HBO := Lib.hid hbo'
  have hzo := hbo'.size
  clear hbo hbo'
  go_wp2_with fail
  refine tailL_mk HBO.out ?_
  refine tree_one rfl ?_; go_wp2_with fail
  refine (wideCmp_any (fun b => b < wo.heap.size) _ _ G 1 (K + 1) wo ((HGK.out.below HBO.out).mono (fun b hb => by have := hb.2; omega)) (HOR.out.mono (fun b hb => hb.2)) (fun b hb => hb) (by have := HXY.out.2.1; have := HGY.out; have := pw_mono (m := K) (n := K + 1) (by omega); omega) (by have := pw_pos K; simp only [pw]; omega) (by omega)).mono ?_
  rintro ep wq ⟨rfl, hbq⟩
  have HBQ := Lib.hid (HBO.out.trans (hbq.mono hzo))
  clear hbq HOR
  obtain ⟨cs, hcs⟩ : ∃ cs, cs = (G - 1).sign := ⟨_, rfl⟩
  rw [← hcs]
  have HCS := Lib.hid hcs
  clear hcs
  go_wp2_with fail
  refine tailL_mk HBQ.out ?_
  repeat (refine tree_head rfl ?_; (show wpQuiet _ _ _ _ (_ :: _) _; go_big_quiet_step (fail)); refine wpQuiet_nil ?_)
  refine tree_done ?_
  have hbq := HBQ.out
  have hzq := hbq.size
  have k0q : wq.cell? ⟨wg.heap.size, 0, none⟩ = some (.int .i64 sg) := bwc hbq; have k1q : wq.cell? ⟨wg.heap.size, 1, none⟩ = some (.slice ag ng cg) := bwc hbq; have lkq : wg.heap.size < wq.heap.size := by { omega }
  have u0e : wq.cell? ⟨w.heap.size, 0, none⟩ = some (.int .i64 (s7)) := bwc hbq; have u1e : wq.cell? ⟨w.heap.size, 1, none⟩ = some (.slice a7 n7 c7) := bwc hbq; have v0e : wq.cell? ⟨w.heap.size + 1, 0, none⟩ = some (.int .i64 (s8)) := bwc hbq; have v1e : wq.cell? ⟨w.heap.size + 1, 1, none⟩ = some (.slice a8 n8 c8) := bwc hbq; have z0e : wq.cell? ⟨w.heap.size + 1 + 1, 0, none⟩ = some (.int .i64 0) := bwc hbq; have z1e : wq.cell? ⟨w.heap.size + 1 + 1, 1, none⟩ = some (.slice none 0 0) := bwc hbq; have z2e : wq.cell? ⟨w.heap.size + 1 + 1, 2, none⟩ = some (.int .i64 0) := bwc hbq; have z3e : wq.cell? ⟨w.heap.size + 1 + 1, 3, none⟩ = some (.slice none 0 0) := bwc hbq; have g0e : wq.frozen? ⟨w.heap.size, 0, none⟩ = false := bwf hbq; have g1e : wq.frozen? ⟨w.heap.size, 1, none⟩ = false := bwf hbq; have h0e : wq.frozen? ⟨w.heap.size + 1, 0, none⟩ = false := bwf hbq; have h1e : wq.frozen? ⟨w.heap.size + 1, 1, none⟩ = false := bwf hbq; have f0e : wq.frozen? ⟨w.heap.size + 1 + 1, 0, none⟩ = false := bwf hbq; have f1e : wq.frozen? ⟨w.heap.size + 1 + 1, 1, none⟩ = false := bwf hbq; have f2e : wq.frozen? ⟨w.heap.size + 1 + 1, 2, none⟩ = false := bwf hbq; have f3e : wq.frozen? ⟨w.heap.size + 1 + 1, 3, none⟩ = false := bwf hbq; have l0e : w.heap.size < wq.heap.size := by { omega }; have l1e : w.heap.size + 1 < wq.heap.size := by { omega }; have l2e : w.heap.size + 1 + 1 < wq.heap.size := by { omega }
  have HBW := Lib.hid (HBK.out.trans (hbq.mono (by omega)))
  have HUQ := Lib.hid (HUK.out.below hbq)
  have HVQ := Lib.hid (HVK.out.below hbq)
  have HGQ := Lib.hid (HGK.out.below hbq)
  clear u0d u1d v0d v1d z0d z1d z2d z3d g0d g1d h0d h1d f0d f1d f2d f3d
  clear l0d l1d l2d hbq HUK HVK HGK HBK HBO k0 k1 lk
  by_cases hcs0 : cs = 0
  ·have HG1 := Lib.hid (gcd_one_div HXY.out.2.2 (show Int.gcd X Y = 1 by
     have h1 := HCS.out
     rw [hcs0] at h1
     have h2 := Int.sign_eq_zero_iff_zero.1 h1.symm
     have h3 := HGE.out
     omega))
   subst hcs0
   go_wp2
   refine bodyPost_ret (v := .agg #[.int .i64 (s7), .slice a7 n7 c7, .int .i64 (s8), .slice a8 n8 c8]) (by simp [results, Tryz.results143, go_sem, *]) rfl ⟨_, rfl, ?_, ?_⟩
   ·exact (((HBW.out.setCell (by simp; omega) _).setCell (by simp; omega) _).setCell (by simp; omega) _).setCell (by simp; omega) _
   ·rw [← HXD.out]
    refine RatioR.mono (p := fun b => p b ∨ w.heap.size + 3 ≤ b) (RatioR.kept (w := wq) ⟨s7, a7, n7, c7, s8, a8, n8, c8, rfl, by rw [HG1.out.1]; exact HUQ.out.mono (fun b hb => hb.1), by rw [HG1.out.2]; exact HVQ.out.mono (fun b hb => hb.1)⟩ (by simp) (fun b hb => ?_)) (fun b hb => hb.imp id (fun h => by omega))
    have hne := (HNZ.out b hb).2.2
    rw [Go.Deep.blk_setCell_other _ _ _ _ (by simpa using hne), Go.Deep.blk_setCell_other _ _ _ _ (by simpa using hne), Go.Deep.blk_setCell_other _ _ _ _ (by simpa using hne), Go.Deep.blk_setCell_other _ _ _ _ (by simpa using hne)]
  ·have hcsb : (cs == 0) = false := by simpa using hcs0
   clear hcs0
   go_wp2_with fail
   refine wp_region_laterY (B := wq.heap.size) [0, 1, 3, 4] [2, 5, 6] [7] (by kernel_rfl) (by kernel_rfl) ?_; simp only [List.filterMap_cons, List.filterMap_nil, List.getElem?_cons_zero, List.getElem?_cons_succ]; repeat (show wpQuiet _ _ _ _ (_ :: _) _; go_big_quiet_step (fail))
   refine wpQuiet_nil ?_
   refine tailY_cons ?_
   go_wp2_with fail
   refine (wideFloor_any (fun _ => True) _ _ X G K K wq.drew (HUQ.out.mono (fun _ _ => trivial)) (HGQ.out.mono (fun _ _ => trivial)) HGY.out.1 HXY.out.1 (by have := HXY.out.2.1; have := HGY.out; omega) (by omega) (by omega)).mono ?_
   rintro e1 w1 ⟨v1', rfl, hb1, hW1⟩
   have hb1' : Below wq.heap.size wq w1 := (Below.refl _ _).drew.trans hb1
   have HW1 := Lib.hid hW1.here
   obtain ⟨a1', n1', c1', l1', rfl, _⟩ := hW1
   have hz1 := hb1'.size
   have HB1 := Lib.hid hb1'
   clear hb1 hb1'
   obtain ⟨s1, hs1⟩ : ∃ s, s = (X / G).sign := ⟨_, rfl⟩
   rw [← hs1] at HW1 ⊢
   clear hs1
   go_wp2_with fail
   refine tailL_mk HB1.out ?_
   refine tailY_cons ?_
   go_wp2_with fail
   refine (wideFloor_any (fun _ => True) _ _ Y G K K w1 ((HVQ.out.below HB1.out).mono (fun _ _ => trivial)) ((HGQ.out.below HB1.out).mono (fun _ _ => trivial)) HGY.out.1 HXY.out.2.1 (by have := HXY.out.2.1; have := HGY.out; omega) (by omega) (by omega)).mono ?_
   rintro e2 w2 ⟨v2', rfl, hb2, hW2⟩
   have HW2 := Lib.hid hW2.here
   obtain ⟨a2', n2', c2', l2', rfl, _⟩ := hW2
   have hz2 := hb2.size
   have HB2 := Lib.hid (HB1.out.trans (hb2.mono hz1))
   have HW12 := Lib.hid (HW1.out.below hb2)
   have hbx := HB2.out
   have u0f : w2.cell? ⟨w.heap.size, 0, none⟩ = some (.int .i64 (s7)) := bwc hbx; have u1f : w2.cell? ⟨w.heap.size, 1, none⟩ = some (.slice a7 n7 c7) := bwc hbx; have v0f : w2.cell? ⟨w.heap.size + 1, 0, none⟩ = some (.int .i64 (s8)) := bwc hbx; have v1f : w2.cell? ⟨w.heap.size + 1, 1, none⟩ = some (.slice a8 n8 c8) := bwc hbx; have z0f : w2.cell? ⟨w.heap.size + 1 + 1, 0, none⟩ = some (.int .i64 0) := bwc hbx; have z1f : w2.cell? ⟨w.heap.size + 1 + 1, 1, none⟩ = some (.slice none 0 0) := bwc hbx; have z2f : w2.cell? ⟨w.heap.size + 1 + 1, 2, none⟩ = some (.int .i64 0) := bwc hbx; have z3f : w2.cell? ⟨w.heap.size + 1 + 1, 3, none⟩ = some (.slice none 0 0) := bwc hbx; have g0f : w2.frozen? ⟨w.heap.size, 0, none⟩ = false := bwf hbx; have g1f : w2.frozen? ⟨w.heap.size, 1, none⟩ = false := bwf hbx; have h0f : w2.frozen? ⟨w.heap.size + 1, 0, none⟩ = false := bwf hbx; have h1f : w2.frozen? ⟨w.heap.size + 1, 1, none⟩ = false := bwf hbx; have f0f : w2.frozen? ⟨w.heap.size + 1 + 1, 0, none⟩ = false := bwf hbx; have f1f : w2.frozen? ⟨w.heap.size + 1 + 1, 1, none⟩ = false := bwf hbx; have f2f : w2.frozen? ⟨w.heap.size + 1 + 1, 2, none⟩ = false := bwf hbx; have f3f : w2.frozen? ⟨w.heap.size + 1 + 1, 3, none⟩ = false := bwf hbx; have l0f : w.heap.size < w2.heap.size := by { omega }; have l1f : w.heap.size + 1 < w2.heap.size := by { omega }; have l2f : w.heap.size + 1 + 1 < w2.heap.size := by { omega }
   have HBF := Lib.hid (HBW.out.trans (hbx.mono (by omega)))
   clear u0e u1e v0e v1e z0e z1e z2e z3e g0e g1e h0e h1e f0e f1e f2e f3e
   clear hb2 hbx l0e l1e l2e HUQ HVQ HGQ k0q k1q
   obtain ⟨s2, hs2⟩ : ∃ s, s = (Y / G).sign := ⟨_, rfl⟩
   rw [← hs2] at HW2 ⊢
   clear hs2
   go_wp2_with fail
   refine tailL_mk HB2.out ?_
   refine tailY_cons ?_
   go_wp2_with fail
   refine tailL_mk HB2.out ?_
   refine tailY_ends ?_
   refine ends_cons ?_
   go_wp2_with fail
   refine tailZ_end ?_
   refine ends_nil ?_
   go_wp2
   refine bodyPost_ret (v := .agg #[.int .i64 s1, .slice a1' n1' c1', .int .i64 s2, .slice a2' n2' c2']) (by simp [results, Tryz.results143, go_sem, *]) rfl ⟨_, rfl, ?_, ?_⟩
   ·exact (((HBF.out.setCell (by simp; omega) _).setCell (by simp; omega) _).setCell (by simp; omega) _).setCell (by simp; omega) _
   ·rw [← HXD.out]
    refine RatioR.mono (p := fun b => w.heap.size + 3 ≤ b) (RatioR.kept (w := w2) ⟨s1, a1', n1', c1', s2, a2', n2', c2', rfl, by rw [rat_num HXY.out.2.2, ← HGE.out]; exact HW12.out.mono (fun b hb => by have := hb.1; simp at this; omega), by rw [rat_den HXY.out.2.2, ← HGE.out]; exact HW2.out.mono (fun b hb => by have := hb.1; omega)⟩ (by simp) (fun b hb => ?_)) (fun b hb => .inr (by omega))
    rw [Go.Deep.blk_setCell_other _ _ _ _ (by simp; omega), Go.Deep.blk_setCell_other _ _ _ _ (by simp; omega), Go.Deep.blk_setCell_other _ _ _ _ (by simp; omega), Go.Deep.blk_setCell_other _ _ _ _ (by simp; omega)]
end Go.Proofs.YtdjinmieogpgcaaGreat
