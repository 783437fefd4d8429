import Derived.Test.YtidboecjllaofaaGreatTCirP
import Derived.Test.YtidboecjllaofaaGreatTCurr
/- The circulating current: the program. -/
namespace Go.Proofs.YtidboecjllaofaaGreat
open Go.RowKit Go.Shelf
set_option linter.unusedVariables false
set_option linter.unusedSimpArgs false

set_option maxHeartbeats 4000000 in
set_option maxRecDepth 100000 in
theorem circulating_any (m : Mac) (l : Lim) (s : Nat) (ab ag : Option Addr) (nb cb ng cg : Nat) (w : World) (hb : BrR w ab nb m.br) (he : ElV m l s 0) :
    Calls Tryz.prog 109 #[.agg #[.slice ab nb cb, .int .i64 m.st, .slice ag ng cg, .int .i64 l.volt, .int .i64 l.lo, .int .i64 l.hi, .int .i64 l.circ, .int .i64 l.brk, .int .i64 l.ret], .int .i64 (s : Int)] w fun e' w' => e' = .returned (.agg #[.int .i64 (cirA m l s).1, .int .i64 (cirA m l s).2]) ∧ Below w.heap.size w w' := by
  have hlen := hb.len
  have hn6 : nb ≤ 6 := by rw [← hlen]; exact he.hm.n1
  have hn0 : 1 ≤ nb := by rw [← hlen]; exact he.hm.n0
  have HBV := Lib.hid (fun (i : Nat) (hi : i < nb) => (he.hm.br i (by rw [hlen]; exact hi)).1)
  have HBR := Lib.hid (fun (W : World) (hbw : Below w.heap.size w W) => hb.below hbw)
  have HCR := Lib.hid (fun (W : World) (hbw : Below w.heap.size w W) => currents_any m l s 0 ab ag nb cb ng cg W he.hm (hb.below hbw) he.hl (by decide) (by rw [← hlen]; exact he.hs) he.h0)
  have HCB := Lib.hid (fun (i : Nat) (hi : i < nb) => curT_bd he (k := i) (by rw [hlen]; exact hi))
  have HFB := Lib.hid (fun (i : Nat) (hi : i ≤ nb) => cirF_bd he (k := i) (by rw [hlen]; exact hi))
  have HSK := Lib.hid (fun (i : Nat) => cirF_skip (m := m) (l := l) (s := s) (k := i))
  have HPL := Lib.hid (fun (i : Nat) (hi : i < nb) => cirF_plus he (k := i) (by rw [hlen]; exact hi))
  have HCZ := Lib.hid (cirF_zero he)
  have HCL := Lib.hid (show (curT m l s 0).length = nb by rw [curT_len, hlen])
  obtain ⟨V, hV⟩ : ∃ V, V = cirA m l s := ⟨_, rfl⟩
  have HV : V = (sz (cirF m l s nb).1, (cirF m l s nb).2) := by rw [hV, ← hlen]; rfl
  have HV := Lib.hid HV
  rw [← hV]
  generalize curT m l s 0 = CT at *
  obtain ⟨vo, lo, hi, ci, br, re⟩ := l
  obtain ⟨st, hst⟩ : ∃ x, x = m.st := ⟨_, rfl⟩
  rw [← hst] at HCR ⊢
  simp only at HCR ⊢
  clear hb he hst hlen hV
  go_enter Tryz.func109, Tryz.ntmps109
  go_wp2_with fail
  obtain ⟨w2, hW2⟩ : ∃ w2, w2 = (w.alloc (Obj.cells #[.slice ab nb cb, .int .i64 st, .slice ag ng cg, .int .i64 vo, .int .i64 lo, .int .i64 hi, .int .i64 ci, .int .i64 br, .int .i64 re] 164)).alloc (Obj.cells #[.int .i64 0, .int .i64 0] 58) := ⟨_, rfl⟩
  rw [← hW2]
  have hb2 : Below w.heap.size w w2 := by rw [hW2]; (repeat' (first | (with_reducible exact Below.refl _ _) | (with_reducible assumption) | (with_reducible refine Below.drewN ?_ _) | (with_reducible refine Below.alloc ?_ ?_ _) | (with_reducible refine Below.drew ?_) | (with_reducible refine Below.setCell ?_ ?_ _) | (with_reducible refine Below.step (by assumption) ?_ ?_) | (with_reducible exact And.left (by assumption)) | go_size))
  have k2 : BlkR w2 w.heap.size (.cells #[.slice ab nb cb, .int .i64 st, .slice ag ng cg, .int .i64 vo, .int .i64 lo, .int .i64 hi, .int .i64 ci, .int .i64 br, .int .i64 re] 164) := by
    show w2.heap[w.heap.size]? = _
    rw [hW2, Below.heap_alloc _ _ _ (by simp)]; exact heap_alloc_new _ _
  have k4 : BlkR w2 (w.heap.size + 1) (.cells #[.int .i64 0, .int .i64 0] 58) := by
    show w2.heap[w.heap.size + 1]? = _
    rw [hW2]
    have := heap_alloc_new (w.alloc (Obj.cells #[.slice ab nb cb, .int .i64 st, .slice ag ng cg, .int .i64 vo, .int .i64 lo, .int .i64 hi, .int .i64 ci, .int .i64 br, .int .i64 re] 164)) (Obj.cells #[.int .i64 0, .int .i64 0] 58)
    rwa [World.size_alloc] at this
  obtain ⟨X2, hX2⟩ : ∃ X, X = w.heap.size := ⟨_, rfl⟩
  obtain ⟨X4, hX4⟩ : ∃ X, X = w.heap.size + 1 := ⟨_, rfl⟩
  rw [← hX4] at k4
  rw [← hX2] at k2
  simp only [← hX4]
  simp only [← hX2]
  have HX := Lib.hid (And.intro hX2 hX4)
  clear hW2 hX2 hX4
  refine (t_whole_any 0 _).mono ?_
  rintro e3 w3 ⟨rfl, hb3⟩
  have K2 := Lib.hid (k2.below hb3)
  have K4 := Lib.hid (k4.below hb3)
  have HB3 := Lib.hid (hb2.trans (hb3.mono hb2.size))
  clear k2 k4 hb2 hb3
  have c2 := blk_cell K2.out (i := 0) rfl
  have c2_1 := blk_cell K2.out (i := 1) rfl
  have c2_2 := blk_cell K2.out (i := 2) rfl
  have c2_3 := blk_cell K2.out (i := 3) rfl
  have c2_4 := blk_cell K2.out (i := 4) rfl
  have c2_5 := blk_cell K2.out (i := 5) rfl
  have c2_6 := blk_cell K2.out (i := 6) rfl
  have c2_7 := blk_cell K2.out (i := 7) rfl
  have c2_8 := blk_cell K2.out (i := 8) rfl
  have l2 := K2.out.lt
  go_wp2_with fail
  obtain ⟨w4, hW4⟩ : ∃ w4, w4 = w3.alloc (Obj.cells #[.int .i64 0, .int .i64 1] 58) := ⟨_, rfl⟩
  rw [← hW4]
  have hb4 : Below w3.heap.size w3 w4 := by rw [hW4]; (repeat' (first | (with_reducible exact Below.refl _ _) | (with_reducible assumption) | (with_reducible refine Below.drewN ?_ _) | (with_reducible refine Below.alloc ?_ ?_ _) | (with_reducible refine Below.drew ?_) | (with_reducible refine Below.setCell ?_ ?_ _) | (with_reducible refine Below.step (by assumption) ?_ ?_) | (with_reducible exact And.left (by assumption)) | go_size))
  have k5 : BlkR w4 w3.heap.size (.cells #[.int .i64 0, .int .i64 1] 58) := by show w4.heap[w3.heap.size]? = _; rw [hW4]; exact heap_alloc_new _ _
  obtain ⟨X5, hX5⟩ : ∃ X, X = w3.heap.size := ⟨_, rfl⟩
  rw [← hX5] at k5
  simp only [← hX5]
  have l25 : X2 < X5 := by rw [hX5]; exact K2.out.lt
  have l45 : X4 < X5 := by rw [hX5]; exact K4.out.lt
  have hw5 : w.heap.size ≤ X5 := by rw [hX5]; exact HB3.out.size
  have hbw4 := HB3.out.trans (hb4.mono HB3.out.size)
  refine (HCR.out _ hbw4).mono ?_
  rintro e6 w6 ⟨g, rfl, hg, hgr, hb6⟩
  have K2 := Lib.hid ((K2.out.below hb4).below hb6)
  have K4 := Lib.hid ((K4.out.below hb4).below hb6)
  have K5 := Lib.hid (k5.below hb6)
  have KG := Lib.hid (show BlkR w6 g _ from hgr)
  have HB6 := Lib.hid (hbw4.trans (hb6.mono hbw4.size))
  have l5g : X5 < g := Nat.lt_of_lt_of_le k5.lt hg
  clear c2 c2_1 c2_2 c2_3 c2_4 c2_5 c2_6 c2_7 c2_8 l2 hW4 hb4 k5 hX5 hbw4 hg hgr hb6 HB3
  go_wp2_with fail
  go_loopw [13] (fun x wr => ∃ i : Nat, x = .int .i64 (i : Int) ∧ i ≤ nb ∧ Hid (BlkR wr X5 (.cells #[.int .i64 (cirF m ⟨vo, lo, hi, ci, br, re⟩ s i).1, .int .i64 (cirF m ⟨vo, lo, hi, ci, br, re⟩ s i).2] 58)) ∧ Hid (BlkR wr g (.cells (pcells CT).toArray 58)) ∧ Hid (Below X5 w6 wr)) (fun x _ => nb - (intOf x).toNat)
  case atStart => exact ⟨0, rfl, Nat.zero_le _, Lib.hid (by rw [HCZ.out]; exact K5.out), KG, Lib.hid (Below.refl _ _)⟩
  case round =>
    clear K5 KG
    obtain ⟨i, rfl, hile, K5, KG, HBx⟩ := hrel
    have i0 : (0 : Int) ≤ (i : Int) := by omega
    have hl5 := K5.out.lt
    have K2r := Lib.hid (show BlkR wr X2 _ from (HBx.out.block X2 l25).trans K2.out)
    have K4r := Lib.hid (show BlkR wr X4 _ from (HBx.out.block X4 l45).trans K4.out)
    have HBw := Lib.hid (HB6.out.trans (HBx.out.mono hw5))
    by_cases hlt : i < nb
    · have i1 : (i : Int) < (nb : Int) := by omega
      obtain ⟨bb, ob, rfl, hbb, hcc⟩ := (HBR.out _ HBw.out).addr (by omega)
      obtain ⟨c0, _⟩ := hcc i hlt
      have q2 := blk_cell K2r.out (i := 0) rfl
      have l2 := K2r.out.lt
      have lg := KG.out.lt
      obtain ⟨pg0, pg1⟩ := pcells_get CT i (by rw [HCL.out]; exact hlt)
      have cg0 := cell_of_row _ _ (i * 2) _ _ _ KG.out
      have cg1 := cell_of_row _ _ (i * 2 + 1) _ _ _ KG.out
      rw [List.getElem?_toArray] at cg0 cg1
      rw [pg0] at cg0
      rw [pg1] at cg1
      obtain ⟨t0, t1⟩ := HBV.out i hlt
      obtain ⟨tt, htt⟩ : ∃ r, r = (bAt m.br i).tap := ⟨_, rfl⟩
      rw [← htt] at c0 t0 t1
      have HTT := Lib.hid htt.symm
      have hcb := HCB.out i hlt
      have hfb := HFB.out i hile
      have hpl := HPL.out i hlt
      generalize CT.getD i (0, 0) = CC at *
      obtain ⟨cn, cd⟩ := CC
      obtain ⟨F, hF⟩ : ∃ F, F = cirF m ⟨vo, lo, hi, ci, br, re⟩ s i := ⟨_, rfl⟩
      rw [← hF] at hfb hpl K5
      obtain ⟨fn, fd⟩ := F
      obtain ⟨p1, p2, p3, p4⟩ := prod_safe (Nat.le_trans hfb.1 (by decide)) hfb.2 hcb.1 hcb.2
      have HPS := Lib.hid (fun (W : World) => t_plus_any fn fd cn cd W p1 p2 p3 p4)
      have HPL2 := Lib.hid hpl
      have HFF := Lib.hid hF
      have y0 := blk_cell K5.out (i := 0) rfl
      have y1 := blk_cell K5.out (i := 1) rfl
      clear hcc hcb hfb hpl p1 p2 p3 p4 htt pg0 pg1 hF
      simp only at HPS HPL2 y0 y1 cg0 cg1
      obtain rfl | rfl : tt = 0 ∨ tt = 1 := by omega
      · go_wp2_with fail
        go_roundw
        case rel => exact ⟨i + 1, by go_num, by omega, Lib.hid (by rw [HSK.out i (by rw [HTT.out]; decide), ← HFF.out]; exact K5.out.below (by (repeat' (first | (with_reducible exact Below.refl _ _) | (with_reducible assumption) | (with_reducible refine Below.drewN ?_ _) | (with_reducible refine Below.alloc ?_ ?_ _) | (with_reducible refine Below.drew ?_) | (with_reducible refine Below.setCell ?_ ?_ _) | (with_reducible refine Below.step (by assumption) ?_ ?_) | (with_reducible exact And.left (by assumption)) | go_size)))), Lib.hid (KG.out.below (by (repeat' (first | (with_reducible exact Below.refl _ _) | (with_reducible assumption) | (with_reducible refine Below.drewN ?_ _) | (with_reducible refine Below.alloc ?_ ?_ _) | (with_reducible refine Below.drew ?_) | (with_reducible refine Below.setCell ?_ ?_ _) | (with_reducible refine Below.step (by assumption) ?_ ?_) | (with_reducible exact And.left (by assumption)) | go_size)))), Lib.hid (HBx.out.alloc (by omega) _)⟩
        case measure => simp [intOf]; omega
      · go_wp2_with fail
        refine (HPS.out _).mono ?_
        rintro e7 w7 ⟨rfl, hb7⟩
        have hPP := HPL2.out (by rw [HTT.out])
        rw [hPP]
        have hbr7 : Below wr.heap.size wr w7 := Below.trans (by (repeat' (first | (with_reducible exact Below.refl _ _) | (with_reducible assumption) | (with_reducible refine Below.drewN ?_ _) | (with_reducible refine Below.alloc ?_ ?_ _) | (with_reducible refine Below.drew ?_) | (with_reducible refine Below.setCell ?_ ?_ _) | (with_reducible refine Below.step (by assumption) ?_ ?_) | (with_reducible exact And.left (by assumption)) | go_size))) (hb7.mono (by simp))
        have k57 := K5.out.below hbr7
        have f0 := blk_fz k57 0
        have f1 := blk_fz k57 1
        have z0 := blk_cell k57 (i := 0) rfl
        have z1 := blk_cell k57 (i := 1) rfl
        have l57 := k57.lt
        have HK := Lib.hid (And.intro k57 (And.intro (KG.out.below hbr7) (HBx.out.trans (hbr7.mono (by omega)))))
        clear hb7 hbr7 k57 hPP
        generalize hCF : cirF m ⟨vo, lo, hi, ci, br, re⟩ s (i + 1) = NF at *
        have HCF := Lib.hid hCF
        clear hCF
        obtain ⟨nf, nd⟩ := NF
        go_wp2_with fail
        go_roundw
        case rel =>
          obtain ⟨k1, k2, k3⟩ := HK.out
          refine ⟨i + 1, by go_num, by omega, Lib.hid ?_, Lib.hid ?_, Lib.hid ?_⟩
          · rw [HCF.out]; exact blk_set (blk_set k1 0 _) 1 _
          · exact (heap_set_neI (show g ≠ X5 by omega)).trans ((heap_set_neI (show g ≠ X5 by omega)).trans k2)
          · exact (k3.setCell (Nat.le_refl _) _).setCell (Nat.le_refl _) _
        case measure => simp [intOf]; omega
    · obtain rfl : i = nb := by omega
      have y0 := blk_cell K5.out (i := 0) rfl
      have y1 := blk_cell K5.out (i := 1) rfl
      have hfb := HFB.out i (Nat.le_refl _)
      have HSZ := Lib.hid (fun (W : World) => t_size_any (cirF m ⟨vo, lo, hi, ci, br, re⟩ s i).1 (cirF m ⟨vo, lo, hi, ci, br, re⟩ s i).2 W (by omega) (by omega))
      generalize cirF m ⟨vo, lo, hi, ci, br, re⟩ s i = F at *
      obtain ⟨fn, fd⟩ := F
      clear hfb
      simp only at HSZ HV
      have h4w : w.heap.size ≤ X4 := by have := HX.out.2; omega
      go_wp2_with fail
      refine (HSZ.out _).mono ?_
      rintro e7 w7 ⟨rfl, hb7⟩
      have k47 := K4r.out.below hb7
      have f0 := blk_fz k47 0
      have f1 := blk_fz k47 1
      have z0 := blk_cell k47 (i := 0) rfl
      have z1 := blk_cell k47 (i := 1) rfl
      have l47 := k47.lt
      have HB7 := Lib.hid (HBw.out.trans (hb7.mono HBw.out.size))
      have HK := Lib.hid k47
      clear hb7 k47
      go_wp2
      obtain ⟨W3, hW3⟩ : ∃ W3, W3 = (w7.setCell ⟨X4, 0, none⟩ (.int .i64 (sz fn))).setCell ⟨X4, 1, none⟩ (.int .i64 fd) := ⟨_, rfl⟩
      rw [← hW3]
      have kw : W3.heap[X4]? = some (.cells #[.int .i64 (sz fn), .int .i64 fd] 58) := by rw [hW3]; exact blk_set (blk_set HK.out 0 _) 1 _
      have r0 := blk_cell kw (i := 0) rfl
      have r1 := blk_cell kw (i := 1) rfl
      refine bodyPost_ret (v := .agg #[.int .i64 (sz fn), .int .i64 fd]) (by simp [results, Tryz.results109, go_sem, r0, r1]) rfl ⟨by rw [HV.out], ?_⟩
      rw [hW3]
      exact Below.setCell (Below.setCell HB7.out h4w _) h4w _
end Go.Proofs.YtidboecjllaofaaGreat
