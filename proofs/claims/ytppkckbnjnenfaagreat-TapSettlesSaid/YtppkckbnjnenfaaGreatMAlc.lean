import Derived.Maps.OwnSet
import Derived.Maps.OwnOps
import Derived.DeepKeys4
import Derived.Test.YtppkckbnjnenfaaGreatTCurr
/- New cells of a function's parameters. -/
namespace Go.Proofs.YtppkckbnjnenfaaGreat
open Go.RowKit Go.Shelf
set_option linter.unusedVariables false
theorem alA1 (w : World) (o1 : Obj) : Below w.heap.size w (w.alloc o1) ∧ BlkR (w.alloc o1) w.heap.size o1 := ⟨by (first|exact bwg|go_size), heap_alloc_new _ _⟩
theorem alA2 (w : World) (o1 o2 : Obj) : Below w.heap.size w ((w.alloc o1).alloc o2) ∧ BlkR ((w.alloc o1).alloc o2) w.heap.size o1 ∧ BlkR ((w.alloc o1).alloc o2) (w.heap.size + 1) o2 := by
 refine ⟨by (first|exact bwg|go_size), ?_, ?_⟩
 ·show _ = _
  rw [Below.heap_alloc _ _ _ (by simp)]
  exact heap_alloc_new _ _
 ·have := heap_alloc_new (w.alloc o1) o2
  show _ = _
  simpa using this
theorem alA3 (w : World) (o1 o2 o3 : Obj) : Below w.heap.size w (((w.alloc o1).alloc o2).alloc o3) ∧ BlkR (((w.alloc o1).alloc o2).alloc o3) w.heap.size o1 ∧ BlkR (((w.alloc o1).alloc o2).alloc o3) (w.heap.size + 1) o2 ∧ BlkR (((w.alloc o1).alloc o2).alloc o3) (w.heap.size + 1 + 1) o3 := by
 obtain ⟨h1, h2, h3⟩ := alA2 w o1 o2
 refine ⟨by (first|exact bwg|go_size), ?_, ?_, ?_⟩
 ·show _ = _
  rw [Below.heap_alloc _ _ _ h2.lt]
  exact h2
 ·show _ = _
  rw [Below.heap_alloc _ _ _ h3.lt]
  exact h3
 ·have := heap_alloc_new ((w.alloc o1).alloc o2) o3
  show _ = _
  simpa using this
theorem blk_st2 {w : World} {X t : Nat} {x0 x1 : Value} (h : BlkR w X (.cells #[x0, x1] t)) (v0 v1 : Value) : BlkR ((w.setCell ⟨X, 0, none⟩ v0).setCell ⟨X, 1, none⟩ v1) X (.cells #[v0, v1] t) := by
 have h0 : (w.setCell ⟨X, 0, none⟩ v0).heap[X]? = some (.cells #[v0, x1] t) := by rw [blk_set h 0 v0]; rfl
 show ((w.setCell ⟨X, 0, none⟩ v0).setCell ⟨X, 1, none⟩ v1).heap[X]? = _
 rw [blk_set h0 1 v1]; rfl
theorem blk_ot2 {w : World} {X Y : Nat} {o : Obj} (h : BlkR w Y o) (hn : Y ≠ X) (v0 v1 : Value) : BlkR ((w.setCell ⟨X, 0, none⟩ v0).setCell ⟨X, 1, none⟩ v1) Y o := (heap_set_neI hn).trans ((heap_set_neI hn).trans h)
theorem blk_al {w : World} {Y : Nat} {o : Obj} (h : BlkR w Y o) (o1 : Obj) : BlkR (w.alloc o1) Y o := (Below.heap_alloc _ _ _ h.lt).trans h
/- Settling: the reference. -/
set_option linter.unusedSimpArgs false
theorem lastM_mono {S : Type} (f : S → S) (mv : S → Bool) (s : S) {k : Nat} : ∀ {m : Nat}, k ≤ m → lastM f mv s k ≤ lastM f mv s m
 | 0, h => by obtain rfl : k = 0 := by omega
              exact Nat.le_refl _
 | m + 1, h => by
  rcases Nat.lt_or_ge m k with h1 | h1
  ·obtain rfl : k = m + 1 := by omega
   exact Nat.le_refl _
  ·have h2 := lastM_mono f mv s h1
   have h3 := lastM_le f mv s m
   rw [show lastM f mv s (m + 1) = if mv (itr f s m) = true then m + 1 else lastM f mv s m from rfl]
   split <;> omega
set_option maxHeartbeats 2000000 in
set_option maxRecDepth 100000 in
theorem rSettling_any (r : Reg) (m : Mom) (d : Int) (w : World) (hr : RegV r) (hm : MomV r m) (hd : -10000 ≤ d ∧ d ≤ 10000) :
    Calls Tryz.prog 31 #[.agg #[.int .i64 r.tgt, .int .i64 r.band, .int .i64 r.dly, .int .i64 r.stp, .int .i64 r.lo, .int .i64 r.hi], .agg #[.int .i64 m.tap, .int .i64 m.wait], .int .i64 d] w
     fun e' w' => e' = .returned (.tuple #[.agg #[.int .i64 ((setR r d m).1.1 : Nat), .int .i64 (setR r d m).1.2], .bool (setR r d m).2]) ∧ Below w.heap.size w w' := by
 have HRG := Lib.hid (fun (k : Nat) (W : World) => show Calls Tryz.prog 78 #[.agg #[.int .i64 r.tgt, .int .i64 r.band, .int .i64 r.dly, .int .i64 r.stp, .int .i64 r.lo, .int .i64 r.hi], .agg #[.int .i64 (itr (tick r d) m k).tap, .int .i64 (itr (tick r d) m k).wait], .int .i64 d] W (fun e' w' => e' = .returned (.agg #[.int .i64 (itr (tick r d) m (k + 1)).tap, .int .i64 (itr (tick r d) m (k + 1)).wait]) ∧ Below W.heap.size W w') from rRegulated_any r (itr (tick r d) m k) d W hr (itr_inv (tick_valid hr d) hm k) hd)
 have HLS := Lib.hid (fun k => show lastM (tick r d) (mvT r d) m (k + 1) = if (itr (tick r d) m (k + 1)).tap ≠ (itr (tick r d) m k).tap then k + 1 else lastM (tick r d) (mvT r d) m k from by
  show (if mvT r d (itr (tick r d) m k) = true then k + 1 else _) = _
  unfold mvT
  by_cases h : (itr (tick r d) m k).tap = (tick r d (itr (tick r d) m k)).tap
  ·rw [if_neg (by rw [decide_eq_false (by exact fun h2 => h2 h)]; decide), if_neg (by exact fun h2 => h2 h.symm)]
  ·rw [if_pos (decide_eq_true h), if_pos (by exact fun h2 => h h2.symm)])
 have HLM := Lib.hid (fun (k m' : Nat) (h : k ≤ m') => lastM_mono (tick r d) (mvT r d) m h)
 have HL0 := Lib.hid (show lastM (tick r d) (mvT r d) m 0 = 0 from rfl)
 have hI0 : itr (tick r d) m 0 = m := rfl
 have hV : setR r d m = if lastM (tick r d) (mvT r d) m 8000 ≤ 4000 then ((lastM (tick r d) (mvT r d) m 8000, (itr (tick r d) m 8000).tap), true) else ((0, 0), false) := rfl
 generalize setR r d m = V at *
 generalize lastM (tick r d) (mvT r d) m = LM at *
 generalize itr (tick r d) m = IT at *
 have HV := Lib.hid hV
 have HI0 := Lib.hid hI0
 clear hr hm hd hI0 hV
 obtain ⟨tgt, band, dly, stp, lo, hi⟩ := r
 obtain ⟨tap, wait⟩ := m
 obtain ⟨⟨V1, V2⟩, V3⟩ := V
 simp only at HRG ⊢
 go_enter Tryz.func31, Tryz.ntmps31
 go_wp2_with fail
 obtain ⟨w3, hW3⟩ : ∃ w3, w3 = ((w.alloc (Obj.cells #[.int .i64 tgt, .int .i64 band, .int .i64 dly, .int .i64 stp, .int .i64 lo, .int .i64 hi] 25)).alloc (Obj.cells #[.int .i64 tap, .int .i64 wait] 27)).alloc (Obj.cells #[.int .i64 0, .int .i64 0] 66) := ⟨_, rfl⟩
 obtain ⟨hb3, k3, k4, k6⟩ := alA3 w (Obj.cells #[.int .i64 tgt, .int .i64 band, .int .i64 dly, .int .i64 stp, .int .i64 lo, .int .i64 hi] 25) (Obj.cells #[.int .i64 tap, .int .i64 wait] 27) (Obj.cells #[.int .i64 0, .int .i64 0] 66)
 rw [← hW3] at hb3 k3 k4 k6
 rw [← hW3]
 obtain ⟨X3, hX3⟩ : ∃ X, X = w.heap.size := ⟨_, rfl⟩
 obtain ⟨X4, hX4⟩ : ∃ X, X = w.heap.size + 1 := ⟨_, rfl⟩
 obtain ⟨X6, hX6⟩ : ∃ X, X = w.heap.size + 1 + 1 := ⟨_, rfl⟩
 rw [← hX6] at k6
 rw [← hX4] at k4
 have k3 : BlkR w3 X3 (.cells #[.int .i64 tgt, .int .i64 band, .int .i64 dly, .int .i64 stp, .int .i64 lo, .int .i64 hi] 25) := by rw [hX3]; exact k3
 simp only [← hX6]
 simp only [← hX4]
 simp only [← hX3]
 have hw6 : w.heap.size ≤ X6 := by omega
 have K3 := Lib.hid k3
 have K4 := Lib.hid k4
 have K6 := Lib.hid k6
 have HB := Lib.hid hb3
 clear hW3 hX3 hX4 hX6 k3 k4 k6 hb3
 obtain ⟨m0, m1, l4⟩ := blkc2 K4.out
 go_wp2_with fail
 go_cut [8, 9] from 8 to 16 (fun v8 v9 wx => ∃ X8 X9 : Nat, v8 = .pointer (some ⟨X8, 0, none⟩) ∧ v9 = .pointer (some ⟨X9, 0, none⟩) ∧ X8 ≠ X9 ∧ w3.heap.size ≤ X8 ∧ w3.heap.size ≤ X9 ∧ Hid (BlkR wx X8 (.cells #[.int .i64 0, .int .i64 tap] 66)) ∧ Hid (BlkR wx X9 (.cells #[.int .i64 tap, .int .i64 wait] 27)) ∧ Hid (Below w3.heap.size w3 wx))
 case first =>
  refine wp_region_laterT (B := w3.heap.size) (.head 0 (.head 1 (.head 2 (.head 3 (.two 4 (.one 5 (.one 6 (.one 7 .done))) 5 (.one 4 (.one 6 (.one 7 .done)))))))) (by kernel_rfl) (by kernel_rfl) ?_
  repeat (refine tree_head rfl ?_; (show wpQuiet _ _ _ _ (_ :: _) _; go_big_quiet_step (fail)); refine wpQuiet_nil ?_)
  refine tree_two rfl rfl ?_ ?_
  ·go_wp2_with fail
   refine tailL_mk (by (first|exact bwg|go_size)) ?_
   refine tree_one rfl ?_; go_wp2_with fail
   refine tailL_mk (by (first|exact bwg|go_size)) ?_
   refine tree_one rfl ?_; go_wp2_with fail
   refine tailL_mk (by (first|exact bwg|go_size)) ?_
   refine tree_one rfl ?_; go_wp2_with fail
   refine tailL_mk (by (first|exact bwg|go_size)) ?_
   refine tree_done ?_
   go_wp2_with fail
   go_meet
   case rel =>
    obtain ⟨_, h1, h2⟩ := alA2 w3 (Obj.cells #[.int .i64 0, .int .i64 tap] 66) (Obj.cells #[.int .i64 tap, .int .i64 wait] 27)
    exact ⟨_, _, rfl, rfl, by omega, by simp, by simp, Lib.hid h1, Lib.hid h2, Lib.hid (by (first|exact bwg|go_size))⟩
  ·go_wp2_with fail
   refine tailL_mk (by (first|exact bwg|go_size)) ?_
   refine tree_one rfl ?_; go_wp2_with fail
   refine tailL_mk (by (first|exact bwg|go_size)) ?_
   refine tree_one rfl ?_; go_wp2_with fail
   refine tailL_mk (by (first|exact bwg|go_size)) ?_
   refine tree_one rfl ?_; go_wp2_with fail
   refine tailL_mk (by (first|exact bwg|go_size)) ?_
   refine tree_done ?_
   go_wp2_with fail
   go_meet
   case rel =>
    obtain ⟨_, h1, h2⟩ := alA2 w3 (Obj.cells #[.int .i64 tap, .int .i64 wait] 27) (Obj.cells #[.int .i64 0, .int .i64 tap] 66)
    exact ⟨_, _, rfl, rfl, by omega, by simp, by simp, Lib.hid h2, Lib.hid h1, Lib.hid (by (first|exact bwg|go_size))⟩
 case rest =>
  obtain ⟨w5, rfl⟩ : ∃ w', w' = wc := ⟨wc, rfl⟩
  obtain ⟨X8, X9, rfl, rfl, hn89, h38, h39, K8, K9, HQ5⟩ := hcut
  have KK3 := K3
  have KK6 := K6
  have HB5 := HQ5
  have l3 := KK3.out.lt
  have l6 := KK6.out.lt
  clear HQ5 K4 K3 K6 m0 m1 l4
  go_wp2_with fail
  have k8 : BlkR w5 X8 (.cells #[.int .i64 ((LM 0 : Nat) : Int), .int .i64 (IT 0).tap] 66) := by rw [HL0.out, HI0.out]; exact K8.out
  have k9 : BlkR w5 X9 (.cells #[.int .i64 (IT 0).tap, .int .i64 (IT 0).wait] 27) := by rw [HI0.out]; exact K9.out
  have K8 := Lib.hid k8
  have K9 := Lib.hid k9
  have z3 := HB.out.size
  clear k8 k9
  go_loopw [10] (fun x wr => ∃ k : Nat, x = .int .i64 ((k : Int) + 1) ∧ k ≤ 8000 ∧ Hid (LM k ≤ 4000) ∧ Hid (BlkR wr X8 (.cells #[.int .i64 ((LM k : Nat) : Int), .int .i64 (IT k).tap] 66)) ∧ Hid (BlkR wr X9 (.cells #[.int .i64 (IT k).tap, .int .i64 (IT k).wait] 27)) ∧ Hid (Below w3.heap.size w3 wr)) (fun x _ => 8001 - (intOf x).toNat)
  case atStart => exact ⟨0, by go_num, by omega, Lib.hid (by rw [HL0.out]; omega), K8, K9, HB5⟩
  case round =>
   clear K8 K9 HB5
   obtain ⟨k, rfl, hk, HLK, K8, K9, HBr⟩ := hrel
   have K3 := Lib.hid (KK3.out.below HBr.out)
   have K6 := Lib.hid (KK6.out.below HBr.out)
   have HBw := bwt HB HBr.out
   by_cases hlt : k < 8000
   ·have i1 : (k : Int) + 1 ≤ 8000 := by omega
    have HRK := Lib.hid (HRG.out k)
    have HLS1 := Lib.hid (HLS.out k)
    obtain ⟨N0, hN0⟩ : ∃ N, N = IT k := ⟨_, rfl⟩
    obtain ⟨N1, hN1⟩ : ∃ N, N = IT (k + 1) := ⟨_, rfl⟩
    have HN0 := Lib.hid hN0
    have HN1 := Lib.hid hN1
    rw [← hN0] at K8 K9 HRK HLS1
    rw [← hN1] at HRK HLS1
    obtain ⟨a1, a2⟩ := N0
    obtain ⟨g1, g2⟩ := N1
    simp only at K8 K9 HRK HLS1
    obtain ⟨y0, y1, l9⟩ := blkc2 K9.out
    obtain ⟨c0, c1, c2, c3, c4, c5, l3'⟩ := blkc6 K3.out
    clear hN0 hN1
    go_wp2_with fail
    refine (HRK.out _).mono ?_
    rintro e6 w6 ⟨rfl, hb6⟩
    have HBr := bwt HBr hb6
    have HBw := bwt HBw hb6
    have K6 := Lib.hid (K6.out.below hb6)
    have K8 := Lib.hid (K8.out.below hb6)
    have K9 := Lib.hid (K9.out.below hb6)
    clear y0 y1 l9 c0 c1 c2 c3 c4 c5 l3' hb6 HRK K3
    obtain ⟨y0, y1, _⟩ := blkc2 K9.out
    have f0 := blk_fz K9.out 0
    have f1 := blk_fz K9.out 1
    have l9 := K9.out.lt
    by_cases hmv : g1 = a1
    ·have e1 : (g1 != a1) = false := by rw [hmv]; simp
     have HLN := Lib.hid (HLS1.out.trans (if_neg (by exact fun h => h hmv)))
     have HMV := Lib.hid hmv
     clear hmv
     go_wp2_with fail
     have k9 := Lib.hid (blk_al (blk_st2 K9.out (.int .i64 g1) (.int .i64 g2)) (Obj.cells #[.int .i64 g1, .int .i64 g2] 27))
     have k8g : BlkR w6 X8 (.cells #[.int .i64 ((LM k : Nat) : Int), .int .i64 g1] 66) := by have h := K8.out; rwa [← HMV.out] at h
     have k8 := Lib.hid (blk_al (blk_ot2 k8g hn89 (.int .i64 g1) (.int .i64 g2)) (Obj.cells #[.int .i64 g1, .int .i64 g2] 27))
     refine ⟨⟨k + 1, by go_num, by omega, Lib.hid (by rw [HLN.out]; exact HLK.out), Lib.hid (by rw [HLN.out, ← HN1.out]; exact k8.out), Lib.hid (by rw [← HN1.out]; exact k9.out), Lib.hid ?_⟩, ?_⟩
     ·have h1 := (HBr.out.setCell (p := ⟨X9, 0, none⟩) h39 (.int .i64 g1)).setCell (p := ⟨X9, 1, none⟩) h39 (.int .i64 g2)
      exact h1.alloc h1.size _
     ·simp only [intOf]; omega
    ·have e1 : (g1 != a1) = true := bne_iff_ne.2 hmv
     have HLN := Lib.hid (HLS1.out.trans (if_pos hmv))
     by_cases hbg : k < 4000
     ·have i2 : ¬ (4000 < (k : Int) + 1) := by omega
      obtain ⟨x0, x1, _⟩ := blkc2 K8.out
      have fx0 := blk_fz K8.out 0
      have fx1 := blk_fz K8.out 1
      have l8 := K8.out.lt
      go_wp2_with fail
      have k9 := Lib.hid (blk_al (blk_st2 (blk_ot2 K9.out (Ne.symm hn89) (.int .i64 ((k : Int) + 1)) (.int .i64 g1)) (.int .i64 g1) (.int .i64 g2)) (Obj.cells #[.int .i64 g1, .int .i64 g2] 27))
      have k8 := Lib.hid (blk_al (blk_ot2 (blk_st2 K8.out (.int .i64 ((k : Int) + 1)) (.int .i64 g1)) hn89 (.int .i64 g1) (.int .i64 g2)) (Obj.cells #[.int .i64 g1, .int .i64 g2] 27))
      refine ⟨⟨k + 1, by go_num, by omega, Lib.hid (by rw [HLN.out]; omega), Lib.hid (by rw [HLN.out, ← HN1.out]; exact k8.out), Lib.hid (by rw [← HN1.out]; exact k9.out), Lib.hid ?_⟩, ?_⟩
      ·have h1 := (((HBr.out.setCell (p := ⟨X8, 0, none⟩) h38 (.int .i64 ((k : Int) + 1))).setCell (p := ⟨X8, 1, none⟩) h38 (.int .i64 g1)).setCell (p := ⟨X9, 0, none⟩) h39 (.int .i64 g1)).setCell (p := ⟨X9, 1, none⟩) h39 (.int .i64 g2)
       exact h1.alloc h1.size _
      ·simp only [intOf]; omega
     ·have i2 : (4000 < (k : Int) + 1) := by omega
      obtain ⟨q0, q1, _⟩ := blkc2 K6.out
      have fq0 := blk_fz K6.out 0
      have fq1 := blk_fz K6.out 1
      have l6' := K6.out.lt
      have hv := HV.out
      rw [if_neg (by have := HLM.out (k + 1) 8000 (by omega); have := HLN.out; omega)] at hv
      clear y0 y1 f0 f1 l9
      have y0 := blk_cell K9.out (i := 0) rfl
      have l9 := K9.out.lt
      go_wp2
      have kw := blk_al (blk_st2 K6.out (.int .i64 0) (.int .i64 0)) (Obj.cells #[.int .i64 g1, .int .i64 g2] 27)
      obtain ⟨r0, r1, _⟩ := blkc2 kw
      injection hv with hv1 hv2
      injection hv1 with hv1 hv3
      subst hv1 hv2 hv3
      refine bodyPost_ret (v := .tuple #[.agg #[.int .i64 0, .int .i64 0], .bool false]) (by simp [results, Tryz.results31, go_sem, r0, r1]) rfl ⟨rfl, ?_⟩
      have h1 := (HBw.out.setCell (p := ⟨X6, 0, none⟩) hw6 (.int .i64 0)).setCell (p := ⟨X6, 1, none⟩) hw6 (.int .i64 0)
      exact h1.alloc h1.size _
   ·obtain rfl : k = 8000 := by omega
    have i1 : ¬ ((8000 : Nat) : Int) + 1 ≤ 8000 := by omega
    obtain ⟨x0, x1, l8⟩ := blkc2 K8.out
    obtain ⟨q0, q1, _⟩ := blkc2 K6.out
    have fq0 := blk_fz K6.out 0
    have fq1 := blk_fz K6.out 1
    have l6' := K6.out.lt
    have hv := HV.out
    rw [if_pos HLK.out] at hv
    injection hv with hv1 hv2
    injection hv1 with hv1 hv3
    have H1 := Lib.hid hv1
    have H3 := Lib.hid hv3
    clear hv1 hv3
    subst hv2
    go_wp2
    have kw := blk_st2 K6.out (.int .i64 ((LM 8000 : Nat) : Int)) (.int .i64 (IT 8000).tap)
    obtain ⟨r0, r1, _⟩ := blkc2 kw
    refine bodyPost_ret (v := .tuple #[.agg #[.int .i64 ((LM 8000 : Nat) : Int), .int .i64 (IT 8000).tap], .bool true]) (by simp [results, Tryz.results31, go_sem, r0, r1]) rfl ⟨by rw [H1.out, H3.out], ?_⟩
    exact (HBw.out.setCell (p := ⟨X6, 0, none⟩) hw6 _).setCell (p := ⟨X6, 1, none⟩) hw6 _
/- A map of the call's own, as a function from keys to elements. -/
def heldR (v : Value) : Option (DataW Value × List MemPlace) := some (.held v, [])
section
variable {P : Program} {α : Type} {K t e : TypeId} {kv : α → Value} {kl : α → Lit} {ok : α → Prop}
structure KeyG (P : Program) (K : TypeId) (kv : α → Value) (kl : α → Lit) (ok : α → Prop) : Prop where
 kd : Go.Maps.Keyed P K
 of : ∀ a, ok a → keyOf P K (kv a) = some (kl a)
 lit : ∀ a, ok a → WideAt.IsKeyLit (kl a)
 inj : ∀ a b, ok a → ok b → kl a = kl b → a = b
def MapG (P : Program) (K : TypeId) (kl : α → Lit) (ok : α → Prop) (w : World) (b n : Nat) (f : α → Option Value) : Prop :=
 ∃ D, w.ownsMap P K heldR b n D ∧ ∀ a, ok a → Maps.has D (kl a) = (f a).isSome ∧ ∀ v, f a = some v → ∀ z, D.atKey (kl a) z = .held v
variable {w : World} {b n : Nat} {f : α → Option Value}
theorem MapG.made (w : World) : MapG P K kl ok (w.alloc (.map #[] 0)) w.heap.size 0 (fun _ => none) :=
 ⟨.map [], World.ownsMap_made w P K heldR, fun a _ => ⟨rfl, fun v h => by cases h⟩⟩
theorem MapG.other {w' : World} (h : MapG P K kl ok w b n f) (ho : ∀ o, w.heap[b]? = some o → (∀ c t z, o ≠ .cells c t z) → (∀ r, o ≠ .loop r) → w'.heap[b]? = some o) : MapG P K kl ok w' b n f := by
 obtain ⟨D, ⟨es, clock, hb, h2⟩, h3⟩ := h
 exact ⟨D, ⟨es, clock, ho _ hb (fun _ _ _ h => by cases h) (fun _ h => by cases h), h2⟩, h3⟩
theorem MapG.below {w' : World} (h : MapG P K kl ok w b n f) (hb : Below w.heap.size w w') : MapG P K kl ok w' b n f :=
 h.other fun o ho _ _ => (hb.block b (Array.getElem?_eq_some_iff.1 ho).1).trans ho
theorem MapG.set {X i : Nat} {c : Array Value} {t' : TypeId} {v : Value} (h : MapG P K kl ok w b n f) (hx : w.heap[X]? = some (.cells c t')) : MapG P K kl ok (w.setCell ⟨X, i, none⟩ v) b n f :=
 h.other fun o ho h1 _ => by
  rw [show (w.setCell ⟨X, i, none⟩ v).heap[b]? = w.heap[b]? from by
   have hne : X ≠ b := by rintro rfl; rw [hx] at ho; simp only [Option.some.injEq] at ho; exact h1 _ _ _ ho.symm
   simp [World.setCell, Array.getElem?_modify, hne]]
  exact ho
theorem MapG.look_ok (hk : KeyG P K kv kl ok) (ht : P.underlying t = some (.map K e)) {z : Value} (hz : (zeroValue e).run P w = .ok z w) (h : MapG P K kl ok w b n f) {a : α} (ha : ok a) :
    (Instr.lookup t (.map (some b)) (kv a) true).run P w = .ok (.tuple #[(f a).getD z, .bool (f a).isSome]) w := by
 obtain ⟨D, h1, h2⟩ := h
 obtain ⟨h3, h4⟩ := h2 a ha
 obtain ⟨v, ps, hr, hv⟩ := h1.look_ok hk.kd ht hz (show heldR z = some (.held z, []) from rfl) (hk.of a ha)
 rw [hr, h3]
 have hv : DataW.held v = D.atKey (kl a) (.held z) := by
  unfold heldR at hv
  simp only [Option.some.injEq, Prod.mk.injEq] at hv
  exact hv.1
 cases hf : f a with
 | some v0 =>
  rw [h4 v0 hf] at hv
  injection hv with hv
  subst hv
  rfl
 | none =>
  rw [hf] at h3
  rw [Maps.atKey_of_not_has h3] at hv
  injection hv with hv
  subst hv
  rfl
theorem MapG.look (hk : KeyG P K kv kl ok) (ht : P.underlying t = some (.map K e)) {z : Value} (hz : (zeroValue e).run P w = .ok z w) (h : MapG P K kl ok w b n f) {a : α} (ha : ok a) {v0 : Value} (hf : f a = some v0) :
    (Instr.lookup t (.map (some b)) (kv a) false).run P w = .ok v0 w := by
 obtain ⟨D, h1, h2⟩ := h
 obtain ⟨h3, h4⟩ := h2 a ha
 obtain ⟨v, ps, hr, hv⟩ := h1.lookup hk.kd ht hz (show heldR z = some (.held z, []) from rfl) (hk.of a ha)
 rw [hr]
 unfold heldR at hv
 simp only [Option.some.injEq, Prod.mk.injEq] at hv
 have hv := hv.1
 rw [h4 v0 hf] at hv
 injection hv with hv
 subst hv
 rfl
theorem MapG.store [DecidableEq α] (hk : KeyG P K kv kl ok) (ht : P.underlying t = some (.map K e)) (hn : n < maxLen) (h : MapG P K kl ok w b n f) {a : α} (ha : ok a) (v : Value) :
    ∃ w', (Instr.mapUpdate t (.map (some b)) (kv a) v).run P w = .ok () w' ∧ MapG P K kl ok w' b (n + 1) (fun x => if x = a then some v else f x) ∧ w.grownBy w' (some b) ∧ (∀ o, w'.heap[b]? = some o → ∀ c t z, o ≠ .cells c t z) := by
 obtain ⟨D, h1, h2⟩ := h
 obtain ⟨w', hr, h3, h4⟩ := h1.store hk.kd ht hn (hk.of a ha) (show heldR v = some (.held v, []) from rfl)
 refine ⟨w', hr, ⟨_, h3, fun x hx => ?_⟩, h4.grown, ?_⟩
 ·by_cases hxa : x = a
  ·subst hxa
   show Maps.has _ _ = (if x = x then some v else f x).isSome ∧ ∀ u, (if x = x then some v else f x) = some u → ∀ z, _
   rw [if_pos rfl]
   refine ⟨Maps.has_put_same h1.isMap (hk.lit x hx) _, fun u hu z => ?_⟩
   rw [Maps.atKey_put_same h1.isMap (hk.lit x hx)]
   injection hu with hu
   rw [hu]
  ·show Maps.has _ _ = (if x = a then some v else f x).isSome ∧ ∀ u, (if x = a then some v else f x) = some u → ∀ z, _
   rw [if_neg hxa]
   have hne : kl x ≠ kl a := fun e => hxa (hk.inj x a hx ha e)
   refine ⟨by rw [Maps.has_put_other hne]; exact (h2 x hx).1, fun u hu z => ?_⟩
   rw [Maps.atKey_put_other hne]
   exact (h2 x hx).2 u hu z
 ·obtain ⟨es, clock, hb, _⟩ := h3
  intro o ho c t' z hh
  rw [hb] at ho
  subst hh
  cases ho
end
end Go.Proofs.YtppkckbnjnenfaaGreat
/- Moments and pairs as keys of maps. -/
namespace Go.Proofs.YtppkckbnjnenfaaGreat
open Go.RowKit
set_option linter.unusedVariables false
set_option linter.unusedSimpArgs false
theorem laidAll : laidOutB Tryz.prog = true := by kernel_rfl
theorem rowMom : 27 < Tryz.prog.types.size := of_decide_eq_true (by kernel_rfl)
theorem rowPai : 29 < Tryz.prog.types.size := of_decide_eq_true (by kernel_rfl)
theorem lawMom : WideMaps.KeyLaw Tryz.prog 27 := deep_law_laid laidAll (m := 3) (by omega) rowMom (by kernel_rfl) (by kernel_rfl)
theorem lawPai : WideMaps.KeyLaw Tryz.prog 29 := deep_law_laid laidAll (m := 4) (by omega) rowPai (by kernel_rfl) (by kernel_rfl)
theorem someSize : ∃ d, Tryz.prog.types.size = d + 5 := ⟨Tryz.prog.types.size - 5, by kernel_rfl⟩
theorem cellsInt : Tryz.prog.cellsOf 3 = 1 := by kernel_rfl
theorem cellsMom : Tryz.prog.cellsOf 27 = 2 := by kernel_rfl
theorem cellsReg : Tryz.prog.cellsOf 25 = 6 := by kernel_rfl
theorem cellsRng : Tryz.prog.cellsOf 23 = 2 := by kernel_rfl
theorem cellsPai : Tryz.prog.cellsOf 29 = 16 := by kernel_rfl
theorem litsInt {d : Nat} {a : Int} (h : (Lit.int .i64 a).wf = true) : Tryz.prog.keyLits (d + 1) 3 [.int .i64 a] = some [.int .i64 a] := by
 simp [Program.keyLits, Tryz.underlying3, h]
theorem litsMom {d : Nat} {a b : Int} (h1 : (Lit.int .i64 a).wf = true) (h2 : (Lit.int .i64 b).wf = true) : Tryz.prog.keyLits (d + 2) 27 [.int .i64 a, .int .i64 b] = some [.int .i64 a, .int .i64 b] := by
 simp [Program.keyLits, Tryz.underlying27, Tryz.underlying3, cellsMom, cellsInt, h1, h2]
theorem litsRng {d : Nat} {a b : Int} (h1 : (Lit.int .i64 a).wf = true) (h2 : (Lit.int .i64 b).wf = true) : Tryz.prog.keyLits (d + 2) 23 [.int .i64 a, .int .i64 b] = some [.int .i64 a, .int .i64 b] := by
 simp [Program.keyLits, Tryz.underlying23, Tryz.underlying3, cellsRng, cellsInt, h1, h2]
theorem litsReg {d : Nat} {a b c e f g : Int} (h1 : (Lit.int .i64 a).wf = true) (h2 : (Lit.int .i64 b).wf = true) (h3 : (Lit.int .i64 c).wf = true) (h4 : (Lit.int .i64 e).wf = true) (h5 : (Lit.int .i64 f).wf = true) (h6 : (Lit.int .i64 g).wf = true) :
    Tryz.prog.keyLits (d + 3) 25 [.int .i64 a, .int .i64 b, .int .i64 c, .int .i64 e, .int .i64 f, .int .i64 g] = some [.int .i64 a, .int .i64 b, .int .i64 c, .int .i64 e, .int .i64 f, .int .i64 g] := by
 unfold Program.keyLits
 simp [Tryz.underlying25, cellsReg, cellsInt, cellsRng, litsInt h1, litsInt h2, litsInt h3, litsInt h4, litsRng h5 h6]
def momL (m : Mom) : Lit := .string (keyBytes [.int .i64 m.tap, .int .i64 m.wait])
def okM (m : Mom) : Prop := (-1000 ≤ m.tap ∧ m.tap ≤ 1000) ∧ -1000 ≤ m.wait ∧ m.wait ≤ 1000
theorem momKey (m : Mom) (h : okM m) : keyOf Tryz.prog 27 (momV m) = some (momL m) := by
 obtain ⟨⟨h1, h2⟩, h3, h4⟩ := h
 obtain ⟨d, hd⟩ := someSize
 unfold keyOf momV momL
 rw [Tryz.underlying27]
 have h5 : Tryz.prog.keyType 27 = true := by kernel_rfl
 have h6 : (Value.agg #[.int .i64 m.tap, .int .i64 m.wait]).formed Tryz.prog 27 = true := by simp [Value.formed, Tryz.underlying27, cellsMom]
 rw [h5, h6, hd]
 have h7 := litsMom (d := d + 4) (a := m.tap) (b := m.wait) (WalkArith.wf_i64 (by omega)) (WalkArith.wf_i64 (by omega))
 simp [Value.cells, h7]
theorem momKeys : KeyG Tryz.prog 27 momV momL okM := ⟨Go.Maps.Keyed.of_law lawMom, momKey, fun a ha => by
 obtain ⟨s, hs⟩ := lawMom.str (momKey a ha)
 rw [hs]; trivial, fun a b ha hb h => by
 have h1 := momKey a ha
 rw [h] at h1
 have := lawMom.inj h1 (momKey b hb)
 unfold momV at this
 obtain ⟨a1, a2⟩ := a
 obtain ⟨b1, b2⟩ := b
 simp at this
 obtain ⟨rfl, rfl⟩ := this
 rfl⟩
def paiV (p : Pai) : Value := .agg (paiC p).toArray
def paiI (p : Pai) : List Int := [p.a.tgt, p.a.band, p.a.dly, p.a.stp, p.a.lo, p.a.hi, p.b.tgt, p.b.band, p.b.dly, p.b.stp, p.b.lo, p.b.hi, p.ma.tap, p.ma.wait, p.mb.tap, p.mb.wait]
def paiL (p : Pai) : Lit := .string (keyBytes ((paiI p).map (Lit.int .i64)))
def okI (x : Int) : Prop := -100000 ≤ x ∧ x ≤ 100000
def okP (p : Pai) : Prop := (okI p.a.tgt ∧ okI p.a.band ∧ okI p.a.dly ∧ okI p.a.stp ∧ okI p.a.lo ∧ okI p.a.hi) ∧ (okI p.b.tgt ∧ okI p.b.band ∧ okI p.b.dly ∧ okI p.b.stp ∧ okI p.b.lo ∧ okI p.b.hi) ∧ (okI p.ma.tap ∧ okI p.ma.wait) ∧ okI p.mb.tap ∧ okI p.mb.wait
theorem okI_wf {x : Int} (h : okI x) : (Lit.int .i64 x).wf = true := WalkArith.wf_i64 (by unfold okI at h; omega)
theorem paiKey (p : Pai) (h : okP p) : keyOf Tryz.prog 29 (paiV p) = some (paiL p) := by
 obtain ⟨⟨a1, a2, a3, a4, a5, a6⟩, ⟨b1, b2, b3, b4, b5, b6⟩, ⟨c1, c2⟩, d1, d2⟩ := h
 obtain ⟨d, hd⟩ := someSize
 unfold keyOf
 rw [Tryz.underlying29]
 have h5 : Tryz.prog.keyType 29 = true := by kernel_rfl
 have h6 : (paiV p).formed Tryz.prog 29 = true := by simp [paiV, paiC, Value.formed, Tryz.underlying29, cellsPai]
 rw [h5, h6, hd]
 have h7 := litsReg (d := d + 2) (okI_wf a1) (okI_wf a2) (okI_wf a3) (okI_wf a4) (okI_wf a5) (okI_wf a6)
 have h8 := litsReg (d := d + 2) (okI_wf b1) (okI_wf b2) (okI_wf b3) (okI_wf b4) (okI_wf b5) (okI_wf b6)
 have h9 := litsMom (d := d + 3) (okI_wf c1) (okI_wf c2)
 have h10 := litsMom (d := d + 3) (okI_wf d1) (okI_wf d2)
 have h11 : Tryz.prog.keyLits (d + 5 + 1) 29 (paiV p).cells.toList = some ((paiI p).map (Lit.int .i64)) := by
  unfold Program.keyLits
  simp [Tryz.underlying29, paiV, paiC, paiI, Value.cells, cellsPai, cellsReg, cellsMom, h7, h8, h9, h10]
 simp only [Bool.and_self, if_true, h11]
 rfl
theorem paiKeys : KeyG Tryz.prog 29 paiV paiL okP := ⟨Go.Maps.Keyed.of_law lawPai, paiKey, fun a ha => by
 obtain ⟨s, hs⟩ := lawPai.str (paiKey a ha)
 rw [hs]; trivial, fun a b ha hb h => by
 have h1 := paiKey a ha
 rw [h] at h1
 have := lawPai.inj h1 (paiKey b hb)
 unfold paiV paiC at this
 obtain ⟨⟨_, _, _, _, _, _⟩, ⟨_, _, _, _, _, _⟩, ⟨_, _⟩, ⟨_, _⟩⟩ := a
 obtain ⟨⟨_, _, _, _, _, _⟩, ⟨_, _, _, _, _, _⟩, ⟨_, _⟩, ⟨_, _⟩⟩ := b
 simp at this
 obtain ⟨rfl, rfl, rfl, rfl, rfl, rfl, rfl, rfl, rfl, rfl, rfl, rfl, rfl, rfl, rfl, rfl⟩ := this
 rfl⟩
/- Currents over one denominator, the circulating current, what a contact breaks, and safe states and changes, in plain words. -/
theorem low_add {A B C E : Int} (hB : 0 < B) (hE : 0 < E) : low ((low A B).1 * (low C E).2 + (low C E).1 * (low A B).2) ((low A B).2 * (low C E).2) = low (A * E + C * B) (B * E) := by
 obtain ⟨e1, p1, _, _⟩ := low_props (a := A) hB
 obtain ⟨e2, p2, _, _⟩ := low_props (a := C) hE
 refine low_congr (Int.mul_pos p1 p2) (Int.mul_pos hB hE) ?_
 generalize (low A B).1 = x at *
 generalize (low A B).2 = y at *
 generalize (low C E).1 = z at *
 generalize (low C E).2 = t at *
 grind
theorem low_add' {A C M : Int} (hM : 0 < M) : low ((low A M).1 * (low C M).2 + (low C M).1 * (low A M).2) ((low A M).2 * (low C M).2) = low (A + C) M := by
 rw [low_add hM hM]
 refine low_congr (Int.mul_pos hM hM) hM ?_
 grind
theorem low_zero {M : Int} (h : 0 < M) : low 0 M = (0, 1) := by
 rw [← low_one' 0]
 exact low_congr h (by decide) (by simp)
def comD (m : Mac) (l : Lim) (s : Nat) (load : Int) : Int := 2520 * (outT m l s load).2
def zcur (m : Mac) (l : Lim) (s : Nat) (load : Int) (k : Nat) : Int :=
 if k ∈ cloU s 6 ∧ isRes m k = false then ovr m l (outT m l s load).1 (outT m l s load).2 k * (2520 / (bAt m.br k).res)
 else if (k : Int) = dirD m (cloU s 6) then rstZ m l load (outT m l s load).1 (outT m l s load).2 (cloU s 6) else 0
theorem dirD_cases (m : Mac) : ∀ L : List Nat, (dirD m L = -1 ∧ ∀ k ∈ L, isRes m k = false) ∨ ∃ d ∈ L, isRes m d = true ∧ dirD m L = (d : Int) := by
 refine snoc_ind (.inl ⟨rfl, by simp⟩) (fun L k ih => ?_)
 rw [dirD_snoc]
 by_cases hk : isRes m k = true
 ·rw [if_pos hk]; exact .inr ⟨k, by simp, hk, rfl⟩
 ·rw [if_neg hk]
  have hk' : isRes m k = false := by simpa using hk
  rcases ih with ⟨h1, h2⟩ | ⟨d, h1, h2, h3⟩
  ·refine .inl ⟨h1, fun j hj => ?_⟩
   rcases List.mem_append.1 hj with h | h
   ·exact h2 j h
   ·simp at h; rw [h]; exact hk'
  ·exact .inr ⟨d, List.mem_append_left _ h1, h2, h3⟩
theorem curA_z {m : Mac} {l : Lim} {N D : Int} {k : Nat} (hD : 0 < D) (hr : 1 ≤ (bAt m.br k).res) (hr1 : (bAt m.br k).res ≤ 10) : curA m l N D k = low (ovr m l N D k * (2520 / (bAt m.br k).res)) (2520 * D) := by
 unfold curA
 have e : 2520 = 2520 / (bAt m.br k).res * (bAt m.br k).res := by
  have : (bAt m.br k).res = 1 ∨ (bAt m.br k).res = 2 ∨ (bAt m.br k).res = 3 ∨ (bAt m.br k).res = 4 ∨ (bAt m.br k).res = 5 ∨ (bAt m.br k).res = 6 ∨ (bAt m.br k).res = 7 ∨ (bAt m.br k).res = 8 ∨ (bAt m.br k).res = 9 ∨ (bAt m.br k).res = 10 := by omega
  rcases this with h | h | h | h | h | h | h | h | h | h <;> rw [h] <;> decide
 refine low_congr (Int.mul_pos hD (by omega)) (by omega) ?_
 generalize 2520 / (bAt m.br k).res = q at *
 generalize (bAt m.br k).res = r at *
 generalize ovr m l N D k = y at *
 have e2 : 2520 * D = q * r * D := by rw [← e]
 grind
theorem curT_len (m : Mac) (l : Lim) (s : Nat) (load : Int) : (curT m l s load).length = m.br.length := by
 unfold curT
 split
 ·exact curL_len ..
 ·rw [List.length_set]; exact curL_len ..
theorem curL_get {m : Mac} {l : Lim} {N D : Int} {n k : Nat} {L : List Nat} (hk : k < n) : (curL m l N D n L).getD k (0, 0) = if k ∈ L ∧ isRes m k = false then curA m l N D k else (0, 1) := by
 unfold curL
 rw [List.getD_eq_getElem?_getD, List.getElem?_map, List.getElem?_range hk]
 rfl
theorem outT_dirD {m : Mac} {l : Lim} {s : Nat} {load : Int} (h : 0 ≤ dirD m (cloU s 6)) : (outT m l s load).2 = 1 := by
 rcases dirD_cases m (cloU s 6) with ⟨h1, _⟩ | ⟨d, h1, h2, h3⟩
 ·omega
 ·unfold outT
  cases hf : (cloU s 6).find? (isRes m) with
  | none => exact absurd h2 (List.find?_eq_none.1 hf d h1)
  | some k => rfl
structure ElV (m : Mac) (l : Lim) (s : Nat) (load : Int) : Prop where
 hm : MacV m
 hl : 0 ≤ l.volt ∧ l.volt ≤ 1000
 hd : -1000 ≤ load ∧ load ≤ 1000
 hs : s < 2 ^ m.br.length
 h0 : s ≠ 0
theorem ElV.lt {m : Mac} {l : Lim} {s : Nat} {load : Int} (h : ElV m l s load) : ∀ k ∈ cloU s 6, k < m.br.length := fun k hk =>
 bits_lt m.br.length (by have := h.hm.n1; omega) s h.hs k (clo_mem hk).1 (clo_mem hk).2
theorem ElV.s64 {m : Mac} {l : Lim} {s : Nat} {load : Int} (h : ElV m l s load) : s < 64 := Nat.lt_of_lt_of_le h.hs (Nat.le_trans (Nat.pow_le_pow_right (by omega) h.hm.n1) (by decide))
theorem ElV.vo {m : Mac} {l : Lim} {s : Nat} {load : Int} (h : ElV m l s load) : VoB (outT m l s load).1 (outT m l s load).2 := outT_bd h.hm h.hl h.hd h.lt (clo_ne s h.s64 h.h0)
theorem ElV.com {m : Mac} {l : Lim} {s : Nat} {load : Int} (h : ElV m l s load) : 0 < comD m l s load ∧ comD m l s load ≤ 38102400 := by
 obtain ⟨a, b, _⟩ := h.vo
 unfold comD
 omega
theorem curT_z {m : Mac} {l : Lim} {s : Nat} {load : Int} (h : ElV m l s load) {k : Nat} (hk : k < m.br.length) : (curT m l s load).getD k (0, 0) = low (zcur m l s load k) (comD m l s load) := by
 have hD := h.vo.1
 obtain ⟨_, r0, r1⟩ := h.hm.br k hk
 have key : ∀ N D, 0 < D → (curL m l N D m.br.length (cloU s 6)).getD k (0, 0) = low (if k ∈ cloU s 6 ∧ isRes m k = false then ovr m l N D k * (2520 / (bAt m.br k).res) else 0) (2520 * D) := by
  intro N D hD
  rw [curL_get hk]
  split
  ·rename_i hh
   have : (bAt m.br k).res ≠ 0 := by have := hh.2; unfold isRes at this; simpa using this
   exact curA_z hD (by omega) r1
  ·exact (low_zero (by omega)).symm
 unfold curT zcur comD
 rcases dirD_cases m (cloU s 6) with ⟨h1, h2⟩ | ⟨d, h1, h2, h3⟩
 ·rw [if_pos (by omega), key _ _ hD]
  split
  ·rfl
  ·rw [if_neg (by omega)]
 ·rw [h3, if_neg (by omega)]
  by_cases hkd : k = d
  ·subst hkd
   rw [if_neg (by rw [h2]; simp), if_pos rfl]
   rw [List.getD_eq_getElem?_getD, Int.toNat_natCast, List.getElem?_set_self (by rw [curL_len]; exact hk)]
   rfl
  ·rw [if_neg (show ¬ (k : Int) = (d : Int) by omega)]
   rw [List.getD_eq_getElem?_getD, Int.toNat_natCast, List.getElem?_set_ne (by omega), ← List.getD_eq_getElem?_getD, key _ _ hD]
theorem zcur_bd {m : Mac} {l : Lim} {s : Nat} {load : Int} (h : ElV m l s load) {k : Nat} (hk : k < m.br.length) : (zcur m l s load k).natAbs ≤ 800150400000 := by
 obtain ⟨d0, d1, _⟩ := h.vo
 obtain ⟨_, r0, r1⟩ := h.hm.br k hk
 unfold zcur
 split
 ·rename_i hh
  have : (bAt m.br k).res ≠ 0 := by have := hh.2; unfold isRes at this; simpa using this
  obtain ⟨o, _⟩ := ovr_bd h.hm h.hl hk h.vo
  obtain ⟨q0, q1⟩ := div_res (r := (bAt m.br k).res) (by omega) r1
  have h2 := mulB o (show (2520 / (bAt m.br k).res).natAbs ≤ 2520 by omega)
  have : 21000 * (outT m l s load).2.natAbs * 2520 ≤ 21000 * 15120 * 2520 := by omega
  omega
 ·split
  ·rename_i hh
   have h1 := outT_dirD (l := l) (load := load) (show 0 ≤ dirD m (cloU s 6) by omega)
   have hb := rst_bd (load := load) h.hm h.hl h.hd h.vo (cloU s 6) h.lt
   have hl := cloU_len s 6
   rw [h1] at hb ⊢
   have : (1000 + 21000 * (cloU s 6).length) * (2520 * (1 : Int).natAbs) ≤ 127000 * 2520 := Nat.mul_le_mul (by omega) (by decide)
   omega
  ·omega
theorem curT_bd {m : Mac} {l : Lim} {s : Nat} {load : Int} (h : ElV m l s load) {k : Nat} (hk : k < m.br.length) : ((curT m l s load).getD k (0, 0)).1.natAbs ≤ 320040000 ∧ 0 < ((curT m l s load).getD k (0, 0)).2 ∧ ((curT m l s load).getD k (0, 0)).2 ≤ 151200 := by
 have hD := h.vo
 obtain ⟨_, r0, r1⟩ := h.hm.br k hk
 have key : ((curL m l (outT m l s load).1 (outT m l s load).2 m.br.length (cloU s 6)).getD k (0, 0)).1.natAbs ≤ 320040000 ∧ 0 < ((curL m l (outT m l s load).1 (outT m l s load).2 m.br.length (cloU s 6)).getD k (0, 0)).2 ∧ ((curL m l (outT m l s load).1 (outT m l s load).2 m.br.length (cloU s 6)).getD k (0, 0)).2 ≤ 151200 := by
  rw [curL_get hk]
  split
  ·rename_i hh
   have : (bAt m.br k).res ≠ 0 := by have := hh.2; unfold isRes at this; simpa using this
   obtain ⟨a, b, c⟩ := cur_bd h.hm h.hl hk hD (by omega) r1
   omega
  ·decide
 unfold curT
 split
 ·exact key
 ·rename_i hh
  by_cases hkd : k = (dirD m (cloU s 6)).toNat
  ·rw [List.getD_eq_getElem?_getD, hkd, List.getElem?_set_self (by rw [curL_len]; omega)]
   have h1 := outT_dirD (l := l) (load := load) (show 0 ≤ dirD m (cloU s 6) by omega)
   have hb := rst_bd (load := load) h.hm h.hl h.hd hD (cloU s 6) h.lt
   have hl := cloU_len s 6
   have hp := low_props (a := rstZ m l load (outT m l s load).1 (outT m l s load).2 (cloU s 6)) (b := 2520 * (outT m l s load).2) (by have := hD.1; omega)
   show ((rstA m l load (outT m l s load).1 (outT m l s load).2 (cloU s 6)).1.natAbs ≤ _) ∧ _
   unfold rstA
   rw [h1] at hb hp ⊢
   obtain ⟨_, p1, p2, p3⟩ := hp
   have : (1000 + 21000 * (cloU s 6).length) * (2520 * (1 : Int).natAbs) ≤ 127000 * 2520 := Nat.mul_le_mul (by omega) (by decide)
   refine ⟨by omega, p1, ?_⟩
   show (low (rstZ m l load (outT m l s load).1 1 (cloU s 6)) (2520 * 1)).2 ≤ 151200
   omega
  ·rw [List.getD_eq_getElem?_getD, List.getElem?_set_ne (by omega), ← List.getD_eq_getElem?_getD]
   exact key
def cirZ (m : Mac) (l : Lim) (s : Nat) : Nat → Int
 | 0 => 0
 | k + 1 => if (bAt m.br k).tap = 1 then cirZ m l s k + zcur m l s 0 k else cirZ m l s k
def cirF (m : Mac) (l : Lim) (s k : Nat) : Int × Int := low (cirZ m l s k) (comD m l s 0)
def cirA (m : Mac) (l : Lim) (s : Nat) : Int × Int := (sz (cirF m l s m.br.length).1, (cirF m l s m.br.length).2)
theorem cirZ_bd {m : Mac} {l : Lim} {s B : Nat} (hz : ∀ k, k < m.br.length → (zcur m l s 0 k).natAbs ≤ B) : ∀ k, k ≤ m.br.length → (cirZ m l s k).natAbs ≤ k * B
 | 0, _ => by simp [cirZ]
 | k + 1, hk => by
  have ih := cirZ_bd hz k (by omega)
  have := hz k (by omega)
  have e : (k + 1) * B = k * B + B := Nat.succ_mul ..
  have e2 : cirZ m l s (k + 1) = if (bAt m.br k).tap = 1 then cirZ m l s k + zcur m l s 0 k else cirZ m l s k := rfl
  rw [e, e2]
  generalize k * B = B at *
  split
  ·omega
  ·omega
theorem cirF_bd {m : Mac} {l : Lim} {s : Nat} (h : ElV m l s 0) {k : Nat} (hk : k ≤ m.br.length) : (cirF m l s k).1.natAbs ≤ 4800902400000 ∧ 0 < (cirF m l s k).2 ∧ (cirF m l s k).2 ≤ 38102400 := by
 obtain ⟨c0, c1⟩ := h.com
 obtain ⟨_, p, q, r⟩ := low_props (a := cirZ m l s k) c0
 have hb := cirZ_bd (fun j hj => zcur_bd h hj) k hk
 have h6 := h.hm.n1
 have h7 : k * 800150400000 ≤ 6 * 800150400000 := Nat.mul_le_mul_right _ (by omega)
 have hb := Nat.le_trans hb h7
 clear h7
 unfold cirF
 omega
theorem cirF_zero {m : Mac} {l : Lim} {s : Nat} (h : ElV m l s 0) : cirF m l s 0 = (0, 1) := low_zero h.com.1
theorem cirF_skip {m : Mac} {l : Lim} {s k : Nat} (h : (bAt m.br k).tap ≠ 1) : cirF m l s (k + 1) = cirF m l s k := by
 unfold cirF
 rw [show cirZ m l s (k + 1) = cirZ m l s k from if_neg h]
theorem cirF_plus {m : Mac} {l : Lim} {s k : Nat} (h : ElV m l s 0) (hk : k < m.br.length) (ht : (bAt m.br k).tap = 1) :
    low ((cirF m l s k).1 * ((curT m l s 0).getD k (0, 0)).2 + ((curT m l s 0).getD k (0, 0)).1 * (cirF m l s k).2) ((cirF m l s k).2 * ((curT m l s 0).getD k (0, 0)).2) = cirF m l s (k + 1) := by
 rw [curT_z h hk]
 unfold cirF
 rw [low_add' h.com.1, show cirZ m l s (k + 1) = cirZ m l s k + zcur m l s 0 k from if_pos ht]
theorem prod_safe {a b c d : Int} (ha : a.natAbs ≤ 4839004800000) (hb : 0 < b ∧ b ≤ 38102400) (hc : c.natAbs ≤ 320040000) (hd : 0 < d ∧ d ≤ 151200) :
    (-4000000000000000000 ≤ a * d ∧ a * d ≤ 4000000000000000000) ∧ (-4000000000000000000 ≤ c * b ∧ c * b ≤ 4000000000000000000) ∧ 0 < b * d ∧ b * d ≤ 9000000000000000000 := by
 have h1 := mulB ha (show d.natAbs ≤ 151200 by omega)
 have h2 := mulB hc (show b.natAbs ≤ 38102400 by omega)
 have h3 := mulB (show b.natAbs ≤ 38102400 by omega) (show d.natAbs ≤ 151200 by omega)
 have h4 := Int.mul_pos hb.1 hd.1
 generalize a * d = x at *
 generalize c * b = y at *
 generalize b * d = z at *
 omega
def safE (m : Mac) (l : Lim) (s : Nat) : Int := if curE m s ≠ 0 then curE m s else if l.circ * (cirA m l s).2 < (cirA m l s).1 then 22 else 0
def brkC (m : Mac) (l : Lim) (s i : Nat) (load : Int) : Int × Int := (sz ((curT m l s load).getD i (0, 0)).1, ((curT m l s load).getD i (0, 0)).2)
def brkW (m : Mac) (l : Lim) (s i : Nat) (load : Int) : Int × Int := low (volA m l i * (outT m l s load).2 - (outT m l s load).1 * 1) (1 * (outT m l s load).2)
def brkV (m : Mac) (l : Lim) (s i : Nat) (load : Int) : Int × Int := (sz (brkW m l (trn s i) i load).1, (brkW m l (trn s i) i load).2)
def lodE (m : Mac) (l : Lim) (s i : Nat) (load : Int) : Int := if l.brk * (brkC m l s i load).2 < (brkC m l s i load).1 then 22 else if l.ret * (brkV m l s i load).2 < (brkV m l s i load).1 then 24 else 0
def chgE (m : Mac) (l : Lim) (s i : Nat) : Int :=
 if mayB m s i = false then 18 else if curE m s ≠ 0 then curE m s else if safE m l (trn s i) ≠ 0 then safE m l (trn s i)
 else if s.testBit i = false then 0 else if lodE m l s i l.lo ≠ 0 then lodE m l s i l.lo else lodE m l s i l.hi
end Go.Proofs.YtppkckbnjnenfaaGreat
