import Derived.Test.YtppkckbnjnenfaaGreatMTMin
/- The worst settling: the reference. -/
namespace Go.Proofs.YtppkckbnjnenfaaGreat
open Go.RowKit Go.Shelf
set_option linter.unusedVariables false
set_option linter.unusedSimpArgs false
theorem worO_cases {r : Reg} (e : Int × Int) (hr : RegV r) : worO r e = if swE e.1 ≠ 0 then ((0, 0), 2) else if swE e.2 ≠ 0 then ((0, 0), 2) else if e.2 < e.1 then ((0, 0), 9) else worR r e := by
 have h0 : regE r = 0 := regE_zero.2 hr
 have key : ∀ d, swE d ≠ 0 → swE d = 2 := fun d h => by unfold swE unl at h ⊢; split <;> simp_all
 have he : worE r e = firstErr [regE r, swE e.1, swE e.2, unl (decide (e.1 ≤ e.2)) 9] := rfl
 rw [h0] at he
 by_cases h1 : swE e.1 = 0
 ·rw [if_neg (by exact fun h => h h1)]
  rw [h1] at he
  by_cases h2 : swE e.2 = 0
  ·rw [if_neg (by exact fun h => h h2)]
   rw [h2] at he
   by_cases h3 : e.1 ≤ e.2
   ·rw [if_neg (by omega)]
    rw [decide_eq_true h3] at he
    unfold worO
    rw [he, if_neg (by decide)]
   ·rw [if_pos (by omega)]
    rw [decide_eq_false h3] at he
    unfold worO
    rw [he]
    rfl
  ·rw [if_pos h2]
   rw [key _ h2] at he
   unfold worO
   rw [he]
   rfl
 ·rw [if_pos h1]
  rw [key _ h1] at he
  unfold worO
  rw [he]
  rfl
set_option maxHeartbeats 4000000 in
set_option maxRecDepth 100000 in
theorem rWorst_any (r : Reg) (e : Int × Int) (w : World) (hr : RegV r) :
    Calls Tryz.prog 29 #[.agg #[.int .i64 r.tgt, .int .i64 r.band, .int .i64 r.dly, .int .i64 r.stp, .int .i64 r.lo, .int .i64 r.hi], .agg #[.int .i64 e.1, .int .i64 e.2]] w
     fun e' w' => e' = .returned (.tuple #[.agg #[.int .i64 (worO r e).1.1, .int .i64 (worO r e).1.2], .int .i64 (worO r e).2]) ∧ Below w.heap.size w w' := by
 have HS1 := Lib.hid (fun (W : World) => rSwingErr_any e.1 W)
 have HS2 := Lib.hid (fun (W : World) => rSwingErr_any e.2 W)
 have HO := Lib.hid (worO_cases e hr)
 have HST := Lib.hid (fun (h1 : swE e.1 = 0) (h2 : swE e.2 = 0) (q : Nat) (hq : q < wN r) (W : World) => show Calls Tryz.prog 31 #[.agg #[.int .i64 r.tgt, .int .i64 r.band, .int .i64 r.dly, .int .i64 r.stp, .int .i64 r.lo, .int .i64 r.hi], .agg #[.int .i64 (r.lo + ((q / 2 : Nat) : Int)), .int .i64 0], .int .i64 (if q % 2 = 0 then e.1 else e.2)] W (fun e' w' => e' = .returned (.tuple #[.agg #[.int .i64 (pS (wSet r e q)).1, .int .i64 (pS (wSet r e q)).2], .bool (wSet r e q).2]) ∧ Below W.heap.size W w') from by
  have hm : MomV r ⟨r.lo + ((q / 2 : Nat) : Int), 0⟩ := by
   have := hr.l0; have := hr.l1; have := hr.h1; have := hr.d0
   unfold wN at hq
   exact ⟨⟨by simp only; omega, by simp only; omega⟩, by simp only; omega, by simp only; omega⟩
  rw [swE_zero] at h1 h2
  exact rSettling_any r ⟨r.lo + ((q / 2 : Nat) : Int), 0⟩ (if q % 2 = 0 then e.1 else e.2) W hr hm (by split <;> assumption))
 have HNN := Lib.hid (show -40 ≤ r.lo ∧ r.lo ≤ r.hi ∧ r.hi ≤ 40 ∧ wN r = 2 * (r.hi - r.lo + 1).toNat from ⟨hr.l0, hr.l1, hr.h1, rfl⟩)
 have HBAD := Lib.hid (fun q (hq : q < wN r) (h : (wSet r e q).2 = false) => worR_bad hq h)
 have HGOOD := Lib.hid (fun (h : ∀ q, q < wN r → (wSet r e q).2 = true) => worR_ok h)
 have HLS := Lib.hid (fun n (hn : 0 < n) => show worstL (wLs r e (n + 1)) = if worse (pS (wSet r e n)) (worstL (wLs r e n)) = true then pS (wSet r e n) else worstL (wLs r e n) from by
  rw [wLs_succ]
  exact worstL_snoc _ _ (fun h => by have := wLs_len r e n; rw [h] at this; simp at this; omega))
 have HL0 := Lib.hid (show worstL (wLs r e 1) = pS (wSet r e 0) from rfl)
 obtain ⟨WO, hWO⟩ : ∃ f : Nat → Int × Int, f = fun n => worstL (wLs r e n) := ⟨_, rfl⟩
 have HLW := Lib.hid (fun n (hn : 0 < n) => show WO (n + 1) = if worse (pS (wSet r e n)) (WO n) = true then pS (wSet r e n) else WO n from by rw [hWO]; exact HLS.out n hn)
 have HL1 := Lib.hid (show WO 1 = pS (wSet r e 0) from by rw [hWO]; exact HL0.out)
 have HGD := Lib.hid (fun (h : ∀ q, q < wN r → (wSet r e q).2 = true) => show worR r e = (WO (wN r), 0) from by rw [hWO]; exact HGOOD.out h)
 clear hWO HLS HL0 HGOOD
 generalize worO r e = RO at *
 generalize worR r e = RR at *
 generalize wSet r e = WS at *
 generalize wN r = NN at *
 obtain ⟨tgt, band, dly, stp, lo, hi⟩ := r
 obtain ⟨e1, e2⟩ := e
 obtain ⟨⟨R1, R2⟩, R3⟩ := RO
 simp only at HS1 HS2 HST HNN HO ⊢
 generalize swE e1 = E2 at *
 generalize swE e2 = E3 at *
 clear hr
 go_enter Tryz.func29, Tryz.ntmps29
 go_wp2_with fail
 obtain ⟨w3, hW3⟩ : ∃ w3, w3 = ((w.alloc (Obj.cells #[.int .i64 tgt, .int .i64 band, .int .i64 dly, .int .i64 stp, .int .i64 lo, .int .i64 hi] 25)).alloc (Obj.cells #[.int .i64 e1, .int .i64 e2] 23)).alloc (Obj.cells #[.int .i64 0, .int .i64 0] 66) := ⟨_, rfl⟩
 obtain ⟨hb3, k2, k3, k4⟩ := alA3 w (Obj.cells #[.int .i64 tgt, .int .i64 band, .int .i64 dly, .int .i64 stp, .int .i64 lo, .int .i64 hi] 25) (Obj.cells #[.int .i64 e1, .int .i64 e2] 23) (Obj.cells #[.int .i64 0, .int .i64 0] 66)
 rw [← hW3] at hb3 k2 k3 k4
 rw [← hW3]
 obtain ⟨X2, hX2⟩ : ∃ X, X = w.heap.size := ⟨_, rfl⟩
 obtain ⟨X3, hX3⟩ : ∃ X, X = w.heap.size + 1 := ⟨_, rfl⟩
 obtain ⟨X4, hX4⟩ : ∃ X, X = w.heap.size + 1 + 1 := ⟨_, rfl⟩
 rw [← hX4] at k4
 rw [← hX3] at k3
 have k2 : BlkR w3 X2 (.cells #[.int .i64 tgt, .int .i64 band, .int .i64 dly, .int .i64 stp, .int .i64 lo, .int .i64 hi] 25) := by rw [hX2]; exact k2
 simp only [← hX4]
 simp only [← hX3]
 simp only [← hX2]
 have hw4 : w.heap.size ≤ X4 := by omega
 have K2 := Lib.hid k2
 have K3 := Lib.hid k3
 have K4 := Lib.hid k4
 have HB := Lib.hid hb3
 clear hW3 hX2 hX3 hX4 k2 k3 k4 hb3
 obtain ⟨c0, c1, c2, c3, c4, c5, l2⟩ := blkc6 K2.out
 obtain ⟨d0, d1, l3⟩ := blkc2 K3.out
 go_wp2_with fail
 refine (HS1.out _).mono ?_
 rintro e5 w5 ⟨rfl, hb5⟩
 have K2 := Lib.hid (K2.out.below hb5)
 have K3 := Lib.hid (K3.out.below hb5)
 have K4 := Lib.hid (K4.out.below hb5)
 have HB := bwt HB hb5
 clear c0 c1 c2 c3 c4 c5 l2 d0 d1 l3
 obtain ⟨c0, c1, c2, c3, c4, c5, l2⟩ := blkc6 K2.out
 obtain ⟨d0, d1, l3⟩ := blkc2 K3.out
 clear hb5 HS1
 by_cases h1 : E2 = 0
 rotate_left
 ·have x1 := bne_iff_ne.2 h1
  have HRR := Lib.hid (HO.out.trans (if_pos h1))
  have hrr := HRR.out
  injection hrr with ho1 ho2
  injection ho1 with ho1 ho3
  subst ho1 ho2 ho3
  clear h1 HO HST
  have f0 := blk_fz K4.out 0
  have f1 := blk_fz K4.out 1
  have l4 := K4.out.lt
  obtain ⟨g0, g1, _⟩ := blkc2 K4.out
  go_wp2
  have kw := blk_st2 K4.out (.int .i64 0) (.int .i64 0)
  obtain ⟨r0, r1, _⟩ := blkc2 kw
  refine bodyPost_ret (v := .tuple #[.agg #[.int .i64 0, .int .i64 0], .int .i64 2]) (by simp [results, Tryz.results29, go_sem, r0, r1]) rfl ⟨by first | rfl | (rw [HRR.out]; done) | (rw [HRR.out]; rfl), (HB.out.setCell (p := ⟨X4, 0, none⟩) hw4 _).setCell (p := ⟨X4, 1, none⟩) hw4 _⟩
 subst h1
 have HO1 := Lib.hid (HO.out.trans (if_neg (by exact fun h => h rfl)))
 have HST1 := Lib.hid (HST.out (by trivial))
 clear HO HST
 go_wp2_with fail
 refine (HS2.out _).mono ?_
 rintro e6 w6 ⟨rfl, hb6⟩
 have K2 := Lib.hid (K2.out.below hb6)
 have K3 := Lib.hid (K3.out.below hb6)
 have K4 := Lib.hid (K4.out.below hb6)
 have HB := bwt HB hb6
 clear c0 c1 c2 c3 c4 c5 l2 d0 d1 l3
 obtain ⟨c0, c1, c2, c3, c4, c5, l2⟩ := blkc6 K2.out
 obtain ⟨d0, d1, l3⟩ := blkc2 K3.out
 clear hb6 HS2
 by_cases h2 : E3 = 0
 rotate_left
 ·have x1 := bne_iff_ne.2 h2
  have HRR := Lib.hid (HO1.out.trans (if_pos h2))
  have hrr := HRR.out
  injection hrr with ho1 ho2
  injection ho1 with ho1 ho3
  subst ho1 ho2 ho3
  clear h2 HO1 HST1
  have f0 := blk_fz K4.out 0
  have f1 := blk_fz K4.out 1
  have l4 := K4.out.lt
  obtain ⟨g0, g1, _⟩ := blkc2 K4.out
  go_wp2
  have kw := blk_st2 K4.out (.int .i64 0) (.int .i64 0)
  obtain ⟨r0, r1, _⟩ := blkc2 kw
  refine bodyPost_ret (v := .tuple #[.agg #[.int .i64 0, .int .i64 0], .int .i64 2]) (by simp [results, Tryz.results29, go_sem, r0, r1]) rfl ⟨by first | rfl | (rw [HRR.out]; done) | (rw [HRR.out]; rfl), (HB.out.setCell (p := ⟨X4, 0, none⟩) hw4 _).setCell (p := ⟨X4, 1, none⟩) hw4 _⟩
 subst h2
 have HO2 := Lib.hid (HO1.out.trans (if_neg (by exact fun h => h rfl)))
 have HST2 := Lib.hid (HST1.out (by trivial))
 clear HO1 HST1
 by_cases h3 : e2 < e1
 ·have HRR := Lib.hid (HO2.out.trans (if_pos h3))
  have hrr := HRR.out
  injection hrr with ho1 ho2
  injection ho1 with ho1 ho3
  subst ho1 ho2 ho3
  clear HO2 HST2
  have f0 := blk_fz K4.out 0
  have f1 := blk_fz K4.out 1
  have l4 := K4.out.lt
  obtain ⟨g0, g1, _⟩ := blkc2 K4.out
  go_wp2
  have kw := blk_st2 K4.out (.int .i64 0) (.int .i64 0)
  obtain ⟨r0, r1, _⟩ := blkc2 kw
  refine bodyPost_ret (v := .tuple #[.agg #[.int .i64 0, .int .i64 0], .int .i64 9]) (by simp [results, Tryz.results29, go_sem, r0, r1]) rfl ⟨by first | rfl | (rw [HRR.out]; done) | (rw [HRR.out]; rfl), (HB.out.setCell (p := ⟨X4, 0, none⟩) hw4 _).setCell (p := ⟨X4, 1, none⟩) hw4 _⟩
 ·have HO3 := Lib.hid (HO2.out.trans (if_neg h3))
  clear HO2
  go_wp2_with fail
  obtain ⟨w7, hW7⟩ : ∃ w7, w7 = w6.alloc (Obj.cells #[.int .i64 0, .int .i64 0] 66) := ⟨_, rfl⟩
  obtain ⟨hb7, k6⟩ := alA1 w6 (Obj.cells #[.int .i64 0, .int .i64 0] 66)
  rw [← hW7] at hb7 k6
  have hz7 : w7.heap.size = w6.heap.size + 1 := by rw [hW7]; simp
  rw [← hW7]
  obtain ⟨X6, hX6⟩ : ∃ X, X = w6.heap.size := ⟨_, rfl⟩
  rw [← hX6] at k6
  have h26 : X2 < X6 := by rw [hX6]; exact l2
  have h36 : X3 < X6 := by rw [hX6]; exact l3
  have h46 : X4 < X6 := by rw [hX6]; exact K4.out.lt
  have hw6 : w.heap.size ≤ X6 := by rw [hX6]; exact HB.out.size
  simp only [← hX6]
  obtain ⟨OW, hOW⟩ : ∃ f : Nat → Int × Int, f = fun q => if q = 0 then (0, 0) else WO q := ⟨_, rfl⟩
  have HOW0 := Lib.hid (show OW 0 = (0, 0) from by rw [hOW]; rfl)
  have HOWS := Lib.hid (fun q (hq : 0 < q) => show OW q = WO q from by rw [hOW]; exact if_neg (by omega))
  have K6 := Lib.hid (show BlkR w7 X6 (.cells #[.int .i64 (OW 0).1, .int .i64 (OW 0).2] 66) from by rw [HOW0.out]; exact k6)
  obtain ⟨sb, hsb⟩ : ∃ f : Nat → Bool, f = fun q => decide (0 < q) := ⟨_, rfl⟩
  have HSB0 := Lib.hid (show sb 0 = false from by rw [hsb]; rfl)
  have HSB1 := Lib.hid (fun q (h : 0 < q) => show sb q = true from by rw [hsb]; exact decide_eq_true h)
  clear hsb
  obtain ⟨hl40, hlh, hh40, hnn⟩ := HNN.out
  have HN2 := Lib.hid hnn
  have hnb : NN ≤ 162 := by rw [hnn]; omega
  have HB7 := bwt HB hb7
  have K27 := Lib.hid (K2.out.below hb7)
  have K37 := Lib.hid (K3.out.below hb7)
  have K47 := Lib.hid (K4.out.below hb7)
  have HZ7 := Lib.hid (show X6 < w7.heap.size by omega)
  clear hW7 hX6 k6 hb7 hz7 hOW hnn HNN HB K2 K3 K4 c0 c1 c2 c3 c4 c5 l2 d0 d1 l3
  go_loopw [7, 8] (fun v t wr => ∃ k : Nat, v = .bool (sb (2 * k)) ∧ t = .int .i64 (lo + (k : Int)) ∧ 2 * k ≤ NN ∧ Hid (∀ q, q < 2 * k → (WS q).2 = true) ∧ Hid (BlkR wr X6 (.cells #[.int .i64 (OW (2 * k)).1, .int .i64 (OW (2 * k)).2] 66)) ∧ Hid (Below X6 w7 wr)) (fun _ t _ => (hi + 1 - intOf t).toNat)
  case atStart => exact ⟨0, by rw [show 2 * 0 = 0 from rfl, HSB0.out], by go_num, by omega, Lib.hid (fun q h => absurd h (by omega)), K6, Lib.hid ⟨rfl, rfl, rfl, Nat.le_refl _, fun _ _ => rfl⟩⟩
  case round =>
   clear K6
   obtain ⟨k, rfl, rfl, hk, HG, K6, HBr⟩ := hrel
   have HB := Lib.hid (HB7.out.trans (HBr.out.mono hw6))
   have K2 := Lib.hid (show BlkR wr X2 _ from (HBr.out.block _ h26).trans K27.out)
   have K3 := Lib.hid (show BlkR wr X3 _ from (HBr.out.block _ h36).trans K37.out)
   have K4 := Lib.hid (show BlkR wr X4 _ from (HBr.out.block _ h46).trans K47.out)
   obtain ⟨c0, c1, c2, c3, c4, c5, l2⟩ := blkc6 K2.out
   obtain ⟨d0, d1, l3⟩ := blkc2 K3.out
   by_cases hlt : lo + (k : Int) ≤ hi
   ·have hkN : 2 * k + 2 ≤ NN := by have := HN2.out; omega
    go_wp2_with fail
    obtain ⟨w8, hW8⟩ : ∃ w8, w8 = wr.alloc (Obj.cells #[.int .i64 e1, .int .i64 e2] 3) := ⟨_, rfl⟩
    obtain ⟨hb8, kE⟩ := alA1 wr (Obj.cells #[.int .i64 e1, .int .i64 e2] 3)
    rw [← hW8] at hb8 kE
    rw [← hW8]
    obtain ⟨XE, hXE⟩ : ∃ X, X = wr.heap.size := ⟨_, rfl⟩
    rw [← hXE] at kE
    simp only [← hXE]
    have h6E : X6 < XE := by rw [hXE]; exact K6.out.lt
    have HB8 := Lib.hid (show Below X6 w7 w8 from HBr.out.trans (hb8.mono (by have := K6.out.lt; omega)))
    have K68 := Lib.hid (K6.out.below hb8)
    have KE8 := Lib.hid (show BlkR w8 XE _ from kE)
    clear hW8 hXE kE hb8 K2 K3 K4 K6 HB HBr c0 c1 c2 c3 c4 c5 l2 d0 d1 l3
    go_loopw [7, 10] (fun v x ws => ∃ j : Nat, v = .bool (sb (2 * k + j)) ∧ x = .int .i64 (j : Int) ∧ j ≤ 2 ∧ Hid (∀ q, q < 2 * k + j → (WS q).2 = true) ∧ Hid (BlkR ws X6 (.cells #[.int .i64 (OW (2 * k + j)).1, .int .i64 (OW (2 * k + j)).2] 66)) ∧ Hid (BlkR ws XE (.cells #[.int .i64 e1, .int .i64 e2] 3)) ∧ Hid (Below X6 w7 ws)) (fun _ x _ => 2 - (intOf x).toNat)
    case atStart => exact ⟨0, rfl, rfl, by omega, HG, K68, KE8, HB8⟩
    case round =>
     clear K68 KE8 HB8 HG
     obtain ⟨j, rfl, rfl, hj, HG, K6, KE, HBr⟩ := hrel
     have HB := Lib.hid (HB7.out.trans (HBr.out.mono hw6))
     have K2 := Lib.hid (show BlkR wr X2 _ from (HBr.out.block _ h26).trans K27.out)
     have K3 := Lib.hid (show BlkR wr X3 _ from (HBr.out.block _ h36).trans K37.out)
     have K4 := Lib.hid (show BlkR wr X4 _ from (HBr.out.block _ h46).trans K47.out)
     obtain ⟨c0, c1, c2, c3, c4, c5, l2⟩ := blkc6 K2.out
     obtain ⟨d0, d1, l3⟩ := blkc2 K3.out
     have j0 : (0 : Int) ≤ (j : Int) := by omega
     by_cases hj2 : j < 2
     ·have j1 : (j : Int) < 2 := by omega
      have uj : wr.cell? ⟨XE, j, none⟩ = some (.int .i64 (if (2 * k + j) % 2 = 0 then e1 else e2)) := by
       obtain ⟨u0, u1, _⟩ := blkc2 KE.out
       obtain rfl | rfl : j = 0 ∨ j = 1 := by omega
       ·rw [if_pos (by omega)]; exact u0
       ·rw [if_neg (by omega)]; exact u1
      have lE := KE.out.lt
      have HSK := Lib.hid (HST2.out (2 * k + j) (by omega))
      rw [show (2 * k + j) / 2 = k by omega] at HSK
      generalize (if (2 * k + j) % 2 = 0 then e1 else e2) = EJ at HSK uj
      have HBk := Lib.hid (fun h => HBAD.out (2 * k + j) (by omega) h)
      have HNW := Lib.hid (show OW (2 * k + j + 1) = if 2 * k + j = 0 then pS (WS (2 * k + j)) else if worse (pS (WS (2 * k + j))) (OW (2 * k + j)) = true then pS (WS (2 * k + j)) else OW (2 * k + j) from by
       by_cases hq : 2 * k + j = 0
       ·rw [if_pos hq, hq, HOWS.out _ (by omega)]; exact HL1.out
       ·rw [if_neg hq, HOWS.out _ (by omega), HOWS.out _ (by omega)]; exact HLW.out _ (by omega))
      generalize hwq : WS (2 * k + j) = WQ at HSK HBk HNW
      have HWQ := Lib.hid hwq
      clear hwq
      generalize hpw : pS WQ = PW at HSK HNW
      obtain ⟨P1, P2⟩ := PW
      generalize hwb : WQ.2 = WB at HSK HBk
      have HWB := Lib.hid hwb
      generalize how : OW (2 * k + j) = OQ at HNW K6
      obtain ⟨O1, O2⟩ := OQ
      simp only at HSK K6
      clear hpw hwb how
      go_wp2_with fail
      go_cut [11, 12] from 50 to 61 (fun v11 v12 wx => ∃ X9 : Nat, v11 = .pointer (some ⟨X9, 0, none⟩) ∧ v12 = .bool WB ∧ Hid (BlkR wx X9 (.cells #[.int .i64 P1, .int .i64 P2] 66)) ∧ Hid (Below wr.heap.size wr wx))
      case first =>
       have HN := Lib.hid (Below.refl wr.heap.size wr).drew
       refine wp_region_laterT (B := wr.heap.size) (.head 0 (.head 1 (.head 2 (.head 3 (.head 4 (.head 5 (.head 6 (.two 7 (.head 8 (.head 9 (.head 10 (.one 11 (.one 12 (.head 13 .done)))))) 11 (.one 7 (.head 8 (.head 9 (.head 10 (.one 12 (.head 13 .done)))))))))))))) (by kernel_rfl) (by kernel_rfl) ?_
       repeat (refine tree_head rfl ?_; (show wpQuiet _ _ _ _ (_ :: _) _; go_big_quiet_step (fail)); refine wpQuiet_nil ?_)
       refine tree_two rfl rfl ?_ ?_
       ·go_wp2_with fail
        refine (HSK.out _).mono ?_
        rintro e8 wx1 ⟨rfl, hbx⟩
        have hzx := hbx.size
        have HN := bwt HN hbx
        clear hbx
        go_wp2_with fail
        refine tailL_mk HN.out ?_
        repeat (refine tree_head rfl ?_; (show wpQuiet _ _ _ _ (_ :: _) _; go_big_quiet_step (fail)); refine wpQuiet_nil ?_)
        refine tree_one rfl ?_
        go_wp2_with fail
        obtain ⟨X9, hX9, hNX, hx9, l9, hs9, hbx⟩ := xal HN.out (Obj.cells #[.int .i64 0, .int .i64 0] 66)
        try simp only [← hX9]
        generalize (wx1.alloc (Obj.cells #[.int .i64 0, .int .i64 0] 66)) = wx2 at *
        have HX9 := Lib.hid (And.intro hX9 hs9)
        have HN := bwt HN hbx
        clear hbx hX9 hs9
        refine tailL_mk HN.out ?_
        refine tree_one rfl ?_
        obtain ⟨c90, c91, f90, f91⟩ := xcf2 hx9
        go_wp2_with fail
        have hq9 := xst2 HN.out hNX hx9 (.int .i64 P1) (.int .i64 P2)
        have HN := Lib.hid hq9.1
        have hxo := hx9
        have hx9 := hq9.2
        clear hq9
        refine tailL_mk HN.out ?_
        repeat (refine tree_head rfl ?_; (show wpQuiet _ _ _ _ (_ :: _) _; go_big_quiet_step (fail)); refine wpQuiet_nil ?_)
        refine tree_done ?_
        go_wp2_with fail
        go_meet
        case rel => exact ⟨X9, rfl, rfl, Lib.hid hx9, HN⟩
       ·go_wp2_with fail
        obtain ⟨X9, hX9, hNX, hx9, l9, hs9, hbx, hbd⟩ := xald HN.out (Obj.cells #[.int .i64 0, .int .i64 0] 66)
        try simp only [← hX9]
        generalize (wr.alloc (Obj.cells #[.int .i64 0, .int .i64 0] 66)).drew = wx4 at *
        have HX9 := Lib.hid (And.intro hX9 hs9)
        have HN := Lib.hid hbx
        clear hbx hX9 hs9 hbd
        refine tailL_mk HN.out ?_
        refine tree_one rfl ?_
        go_wp2_with fail
        refine (HSK.out _).mono ?_
        rintro e8 wx5 ⟨rfl, hbx⟩
        have hzx := hbx.size
        have HN := bwt HN hbx
        have hx9 := (hbx.block X9 l9).trans hx9
        have l9 := Nat.lt_of_lt_of_le l9 hbx.size
        clear hbx
        go_wp2_with fail
        refine tailL_mk HN.out ?_
        repeat (refine tree_head rfl ?_; (show wpQuiet _ _ _ _ (_ :: _) _; go_big_quiet_step (fail)); refine wpQuiet_nil ?_)
        refine tree_one rfl ?_
        obtain ⟨c90, c91, f90, f91⟩ := xcf2 hx9
        go_wp2_with fail
        have hq9 := xst2 HN.out hNX hx9 (.int .i64 P1) (.int .i64 P2)
        have HN := Lib.hid hq9.1
        have hxo := hx9
        have hx9 := hq9.2
        clear hq9
        refine tailL_mk HN.out ?_
        repeat (refine tree_head rfl ?_; (show wpQuiet _ _ _ _ (_ :: _) _; go_big_quiet_step (fail)); refine wpQuiet_nil ?_)
        refine tree_done ?_
        go_wp2_with fail
        go_meet
        case rel => exact ⟨X9, rfl, rfl, Lib.hid hx9, HN⟩
      case rest =>
       obtain ⟨w9, rfl⟩ : ∃ w', w' = wc := ⟨wc, rfl⟩
       obtain ⟨XC, rfl, rfl, KC, HQ9⟩ := hcut
       have hb9 := HQ9.out
       have HBr := Lib.hid (HBr.out.trans (hb9.mono (by have := K6.out.lt; omega)))
       have K4 := Lib.hid (K4.out.below hb9)
       have K6 := Lib.hid (K6.out.below hb9)
       have KE := Lib.hid (KE.out.below hb9)
       have HB := bwt HB hb9
       clear hb9 HQ9 K2 K3 c0 c1 c2 c3 c4 c5 l2 d0 d1 l3 uj lE HSK
       obtain ⟨x0, x1, lC⟩ := blkc2 KC.out
       cases WB
       ·have hrr := HBk.out (by rfl)
        have HRR := Lib.hid (HO3.out.trans hrr)
        have hrr2 := HRR.out
        injection hrr2 with ho1 ho2
        injection ho1 with ho1 ho3
        subst ho1 ho2 ho3
        clear hrr HBAD HGD HST2
        have f0 := blk_fz K4.out 0
        have f1 := blk_fz K4.out 1
        have l4 := K4.out.lt
        obtain ⟨g0, g1, _⟩ := blkc2 K4.out
        go_wp2
        have kw := blk_st2 K4.out (.int .i64 0) (.int .i64 0)
        obtain ⟨r0, r1, _⟩ := blkc2 kw
        refine bodyPost_ret (v := .tuple #[.agg #[.int .i64 0, .int .i64 0], .int .i64 21]) (by simp [results, Tryz.results29, go_sem, r0, r1]) rfl ⟨by first | rfl | (rw [HRR.out]; done) | (rw [HRR.out]; rfl), (HB.out.setCell (p := ⟨X4, 0, none⟩) hw4 _).setCell (p := ⟨X4, 1, none⟩) hw4 _⟩
       ·have HG2 := Lib.hid (show ∀ q, q < 2 * k + (j + 1) → (WS q).2 = true from fun q hq => by
          by_cases hqq : q = 2 * k + j
          ·subst hqq; rw [HWQ.out]; exact HWB.out
          ·exact HG.out q (by omega))
        obtain ⟨y0, y1, _⟩ := blkc2 K6.out
        have fy0 := blk_fz K6.out 0
        have fy1 := blk_fz K6.out 1
        have l6 := K6.out.lt
        by_cases hq : 2 * k + j = 0
        ·have es : sb (2 * k + j) = false := by rw [hq]; exact HSB0.out
         have HQ0 := Lib.hid hq
         clear hq
         have HTK := Lib.hid (HNW.out.trans (if_pos HQ0.out))
         go_wp2
         refine ⟨⟨j + 1, by rw [HSB1.out _ (by omega)], by go_num, by omega, HG2, Lib.hid (by rw [show 2 * k + (j + 1) = 2 * k + j + 1 from rfl, HTK.out]; exact blk_st2 K6.out _ _), Lib.hid (blk_ot2 KE.out (by omega) _ _), Lib.hid ((HBr.out.setCell (p := ⟨X6, 0, none⟩) (Nat.le_refl _) _).setCell (p := ⟨X6, 1, none⟩) (Nat.le_refl _) _)⟩, ?_⟩
         simp only [intOf]; omega
        ·have es : sb (2 * k + j) = true := HSB1.out _ (by omega)
         have HNX := Lib.hid (HNW.out.trans (if_neg hq))
         by_cases h1 : O1 < P1
         ·have HTK := Lib.hid (HNX.out.trans (if_pos (by unfold worse; simp only [Bool.or_eq_true, Bool.and_eq_true, decide_eq_true_eq]; omega)))
          go_wp2
          refine ⟨⟨j + 1, by rw [HSB1.out _ (by omega)], by go_num, by omega, HG2, Lib.hid (by rw [show 2 * k + (j + 1) = 2 * k + j + 1 from rfl, HTK.out]; exact blk_st2 K6.out _ _), Lib.hid (blk_ot2 KE.out (by omega) _ _), Lib.hid ((HBr.out.setCell (p := ⟨X6, 0, none⟩) (Nat.le_refl _) _).setCell (p := ⟨X6, 1, none⟩) (Nat.le_refl _) _)⟩, ?_⟩
          simp only [intOf]; omega
         ·by_cases h2 : P1 = O1
          ·have eb : (P1 == O1) = true := by rw [h2]; simp
           by_cases h3 : P2 < O2
           ·have HTK := Lib.hid (HNX.out.trans (if_pos (by unfold worse; simp only [Bool.or_eq_true, Bool.and_eq_true, decide_eq_true_eq]; omega)))
            have H2 := Lib.hid h2
            clear h2
            go_wp2
            refine ⟨⟨j + 1, by rw [HSB1.out _ (by omega)], by go_num, by omega, HG2, Lib.hid (by rw [show 2 * k + (j + 1) = 2 * k + j + 1 from rfl, HTK.out]; exact blk_st2 K6.out _ _), Lib.hid (blk_ot2 KE.out (by omega) _ _), Lib.hid ((HBr.out.setCell (p := ⟨X6, 0, none⟩) (Nat.le_refl _) _).setCell (p := ⟨X6, 1, none⟩) (Nat.le_refl _) _)⟩, ?_⟩
            simp only [intOf]; omega
           ·have HTK := Lib.hid (HNX.out.trans (if_neg (by unfold worse; simp only [Bool.or_eq_true, Bool.and_eq_true, decide_eq_true_eq]; omega)))
            have H2 := Lib.hid h2
            clear h2
            go_wp2
            refine ⟨⟨j + 1, by first | (rw [HSB1.out (2 * k + (j + 1)) (by omega), HSB1.out (2 * k + j) (by omega)]; done) | (rw [HSB1.out (2 * k + (j + 1)) (by omega)]; done), by go_num, by omega, HG2, Lib.hid (by rw [show 2 * k + (j + 1) = 2 * k + j + 1 from rfl, HTK.out]; exact K6.out), KE, HBr⟩, ?_⟩
            simp only [intOf]; omega
          ·have eb : (P1 == O1) = false := by simpa using h2
           have HTK := Lib.hid (HNX.out.trans (if_neg (by unfold worse; simp only [Bool.or_eq_true, Bool.and_eq_true, decide_eq_true_eq]; omega)))
           clear h2
           go_wp2
           refine ⟨⟨j + 1, by first | (rw [HSB1.out (2 * k + (j + 1)) (by omega), HSB1.out (2 * k + j) (by omega)]; done) | (rw [HSB1.out (2 * k + (j + 1)) (by omega)]; done), by go_num, by omega, HG2, Lib.hid (by rw [show 2 * k + (j + 1) = 2 * k + j + 1 from rfl, HTK.out]; exact K6.out), KE, HBr⟩, ?_⟩
           simp only [intOf]; omega
     ·obtain rfl : j = 2 := by omega
      go_wp2_with fail
      refine ⟨⟨k + 1, by rw [show 2 * (k + 1) = 2 * k + 2 from rfl], by go_num, by omega, HG, K6, HBr⟩, ?_⟩
      simp only [intOf]; omega
   ·have hkN : 2 * k = NN := by have := HN2.out; omega
    have hrr := HGD.out (fun q hq => HG.out q (by omega))
    have ho := HO3.out.trans hrr
    injection ho with ho1 ho2
    have hq0 : 0 < NN := by have := HN2.out; omega
    have k6 : BlkR wr X6 (.cells #[.int .i64 R1, .int .i64 R2] 66) := by
     have h := K6.out
     rw [hkN, HOWS.out NN hq0, ← ho1] at h
     exact h
    have K6 := Lib.hid k6
    obtain ⟨q0, q1, l6⟩ := blkc2 K6.out
    have f0 := blk_fz K4.out 0
    have f1 := blk_fz K4.out 1
    have l4 := K4.out.lt
    obtain ⟨g0, g1, _⟩ := blkc2 K4.out
    subst ho2
    clear k6 hrr ho1 hq0
    go_wp2
    have kw := blk_st2 K4.out (.int .i64 R1) (.int .i64 R2)
    obtain ⟨r0, r1, _⟩ := blkc2 kw
    refine bodyPost_ret (v := .tuple #[.agg #[.int .i64 R1, .int .i64 R2], .int .i64 0]) (by simp [results, Tryz.results29, go_sem, r0, r1]) rfl ⟨rfl, (HB.out.setCell (p := ⟨X4, 0, none⟩) hw4 _).setCell (p := ⟨X4, 1, none⟩) hw4 _⟩
end Go.Proofs.YtppkckbnjnenfaaGreat
