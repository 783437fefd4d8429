import Derived.Test.YtdjinmieogpgcaaGreatMTBrk
/- Safe changes: the program. -/
namespace Go.Proofs.YtdjinmieogpgcaaGreat
open Go.RowKit Go.Shelf
set_option linter.unusedVariables false
set_option linter.unusedSimpArgs false
theorem run_arr2 (w : World) (a b v : Value) (i : Int) (h0 : 0 ≤ i) (h1 : i < 2) (hv : (#[a, b] : Array Value)[i.toNat]? = some v) : (Instr.index 156 (.agg #[a, b]) (.int .i64 i)).run Tryz.prog w = .ok v w := by
 have hs : Tryz.prog.cellsOf 3 = 1 := by kernel_rfl
 obtain ⟨h, e⟩ := Array.getElem?_eq_some_iff.1 hv
 simp [Instr.index, run_underlying Tryz.underlying156, asIntOf, h0, h1, go_sem]
 simpa using e
@[go_sem] theorem run_arr2_0 (w : World) (a b : Value) : (Instr.index 156 (.agg #[a, b]) (.int .i64 0)).run Tryz.prog w = .ok a w := run_arr2 w a b a 0 (by omega) (by omega) rfl
@[go_sem] theorem run_arr2_1 (w : World) (a b : Value) : (Instr.index 156 (.agg #[a, b]) (.int .i64 1)).run Tryz.prog w = .ok b w := run_arr2 w a b b 1 (by omega) (by omega) rfl
theorem chgE_no {m : Mac} {l : Lim} {s i : Nat} (h : mayB m s i = false) : chgE m l s i = 18 := by unfold chgE; rw [if_pos h]
def chg3 (m : Mac) (l : Lim) (s i : Nat) : Int := firstErr [curE m s, safE m l (trn s i)]
theorem chg3_eq (m : Mac) (l : Lim) (s i : Nat) : chg3 m l s i = if curE m s ≠ 0 then curE m s else safE m l (trn s i) := by
 unfold chg3 firstErr firstErr firstErr
 by_cases h : curE m s = 0
 ·simp [h]; intro h2; exact h2.symm
 ·simp [h]
theorem chg3_zero {m : Mac} {l : Lim} {s i : Nat} (h : chg3 m l s i = 0) : curE m s = 0 ∧ safE m l (trn s i) = 0 := by
 unfold chg3 at h
 rw [firstErr_cons, firstErr_cons] at h
 exact ⟨h.1, h.2.1⟩
theorem chgE_mid {m : Mac} {l : Lim} {s i : Nat} (h : mayB m s i = true) : chgE m l s i = if chg3 m l s i ≠ 0 then chg3 m l s i else if s.testBit i = false then 0 else if lodE m l s i l.lo ≠ 0 then lodE m l s i l.lo else lodE m l s i l.hi := by
 unfold chgE
 rw [if_neg (by rw [h]; decide), chg3_eq]
 by_cases h1 : curE m s = 0
 ·simp [h1]
 ·simp [h1]
set_option maxHeartbeats 4000000 in
set_option maxRecDepth 100000 in
theorem change_any (m : Mac) (l : Lim) (s i : Nat) (ab ag : Option Addr) (nb cb ng cg : Nat) (w : World) (hm : MacV m) (hl : limE l = 0) (hb : BrR w ab nb m.br) (hg : GrR w ag ng m.gs) (hs : s < 2 ^ nb) (hin : i < nb) :
    Calls Tryz.prog 66 #[.agg #[.slice ab nb cb, .int .i64 m.st, .slice ag ng cg, .int .i64 l.volt, .int .i64 l.lo, .int .i64 l.hi, .int .i64 l.circ, .int .i64 l.brk, .int .i64 l.ret], .int .i64 (s : Int), .int .i64 (i : Int)] w fun e' w' => e' = .returned (.int .i64 (chgE m l s i)) ∧ Below w.heap.size w w' := by
 have hlen := hb.len
 have hn6 : nb ≤ 6 := by rw [← hlen]; exact hm.n1
 have hs64 : s < 64 := Nat.lt_of_lt_of_le hs (Nat.le_trans (Nat.pow_le_pow_right (by omega) hn6) (by decide))
 have HMC := Lib.hid (fun (W : World) (hbw : Below w.heap.size w W) => mayChange_any m s i ab ag nb cb ng cg W hm (hg.below hbw) hs64 (by omega))
 have HCE := Lib.hid (fun (W : World) (hbw : Below w.heap.size w W) => currentsErr_any m l s ab ag nb cb ng cg W hm (hb.below hbw) hs)
 have HSF := Lib.hid (fun (W : World) (hbw : Below w.heap.size w W) => safe_any m l (trn s i) ab ag nb cb ng cg W hm hl (hb.below hbw) (trn_lt hn6 hs hin))
 have HTU := Lib.hid (fun (W : World) => show Calls Tryz.prog 79 #[.int .i64 (s : Int), .int .i64 (i : Int)] W (fun e' w' => e' = .returned (.int .i64 ((trn s i : Nat) : Int)) ∧ W = w') from turned_any s i W hs64 (by omega))
 have HHA := Lib.hid (fun (W : World) => has_any s i W hs64 (by omega))
 have HU := Lib.hid (fun (b : Bool) (e : Int) w' => t_unless_any b e w')
 have hlz := limE_zero.1 hl
 have hel := fun (h : chg3 m l s i = 0) (ld : Int) (h1 : -1000 ≤ ld ∧ ld ≤ 1000) => show ElV m l s ld ∧ ElV m l (trn s i) ld from
  ⟨⟨hm, hlz.1, h1, by rw [hlen]; exact hs, curE_s0 (chg3_zero h).1⟩, ⟨hm, hlz.1, h1, by rw [hlen]; exact trn_lt hn6 hs hin, curE_s0 (safE_cur (chg3_zero h).2)⟩⟩
 have HBK0 := Lib.hid (fun (h : chg3 m l s i = 0) (ld : Int) (h1 : -1000 ≤ ld ∧ ld ≤ 1000) (W : World) (hbw : Below w.heap.size w W) => breaks_any m l s i ld ab ag nb cb ng cg W (hb.below hbw) (hel h ld h1).1 (hel h ld h1).2 hin)
 have HXB0 := Lib.hid (fun (h : chg3 m l s i = 0) (ld : Int) (h1 : -1000 ≤ ld ∧ ld ≤ 1000) => show (-9223372036854775807 ≤ l.brk * (brkC m l s i ld).2 ∧ l.brk * (brkC m l s i ld).2 ≤ 9223372036854775807) ∧ (-9223372036854775807 ≤ l.ret * (brkV m l s i ld).2 ∧ l.ret * (brkV m l s i ld).2 ≤ 9223372036854775807) from
  ⟨mul_small hlz.2.2.2.1 (by have := brkC_bd (hel h ld h1).1 (i := i) (by rw [hlen]; exact hin); omega), mul_small hlz.2.2.2.2 (by have := brkV_bd (hel h ld h1).2 (by rw [hlen]; exact hin); omega)⟩)
 have HLL := Lib.hid (show (-1000 ≤ l.lo ∧ l.lo ≤ 1000) ∧ (-1000 ≤ l.hi ∧ l.hi ≤ 1000) from by omega)
 obtain ⟨V, hVV⟩ : ∃ V, V = chgE m l s i := ⟨_, rfl⟩
 have HVN := Lib.hid (fun (h : mayB m s i = false) => hVV.trans (chgE_no (l := l) h))
 have HVM := Lib.hid (fun (h : mayB m s i = true) => hVV.trans (chgE_mid (l := l) h))
 rw [← hVV]
 have hC3 : chg3 m l s i = firstErr [curE m s, safE m l (trn s i)] := rfl
 generalize chg3 m l s i = C3 at *
 generalize curE m s = CE at *
 generalize safE m l (trn s i) = SE at *
 generalize mayB m s i = MB at *
 generalize s.testBit i = TB at *
 have HC3 := Lib.hid hC3
 obtain ⟨vo, lo, hi, ci, br, re⟩ := l
 obtain ⟨st, hst⟩ : ∃ x, x = m.st := ⟨_, rfl⟩
 rw [← hst] at HMC HCE HSF HBK0 ⊢
 simp only at HMC HCE HSF HBK0 HXB0 HLL HVM ⊢
 clear hb hg hst hVV hC3 hm hl hs hlen hel hlz
 go_enter Tryz.func66, Tryz.ntmps66
 go_wp2_with fail
 obtain ⟨w1, hW1⟩ : ∃ w1, w1 = w.alloc (Obj.cells #[.slice ab nb cb, .int .i64 st, .slice ag ng cg, .int .i64 vo, .int .i64 lo, .int .i64 hi, .int .i64 ci, .int .i64 br, .int .i64 re] 100) := ⟨_, rfl⟩
 rw [← hW1]
 have hb1 : Below w.heap.size w w1 := by rw [hW1]; (first|exact bwg|go_size)
 have k1 : BlkR w1 w.heap.size (.cells #[.slice ab nb cb, .int .i64 st, .slice ag ng cg, .int .i64 vo, .int .i64 lo, .int .i64 hi, .int .i64 ci, .int .i64 br, .int .i64 re] 100) := by show w1.heap[w.heap.size]? = _; rw [hW1]; exact heap_alloc_new _ _
 obtain ⟨X1, hX1⟩ : ∃ X, X = w.heap.size := ⟨_, rfl⟩
 rw [← hX1] at k1
 simp only [← hX1]
 have K1 := Lib.hid k1
 have HB1 := Lib.hid hb1
 clear hW1 hX1 k1 hb1
 obtain ⟨c1, c1_1, c1_2, c1_3, c1_4, c1_5, c1_6, c1_7, c1_8, l1⟩ := blkc9 K1.out
 refine (HMC.out _ HB1.out).mono ?_
 rintro e5 w5 ⟨rfl, hb5⟩
 have HB := bwt HB1 hb5
 have K1 := Lib.hid (K1.out.below hb5)
 clear hb5 c1 c1_1 c1_2 c1_3 c1_4 c1_5 c1_6 c1_7 c1_8 l1 HMC HB1
 cases MB
 ·have HVX := Lib.hid (HVN.out rfl)
  go_wp2
  go_ret
  exact ⟨ret_int (by rw [HVX.out]), HB.out⟩
 ·have HVX := Lib.hid (HVM.out rfl)
  obtain ⟨c1, c1_1, c1_2, c1_3, c1_4, c1_5, c1_6, c1_7, c1_8, l1⟩ := blkc9 K1.out
  have HCN := Lib.hid (fun (W : World) (hbw : Below w5.heap.size w5 W) => HCE.out W (HB.out.trans (hbw.mono HB.out.size)))
  clear HVN HVM HCE
  go_wp2_with fail
  refine later_of_eq 7 (by kernel_rfl) (by kernel_rfl) ?_; simp only [List.take_succ_cons, List.take_zero, List.drop_succ_cons, List.drop_zero]; repeat go_big_quiet_step(first | with_reducible exact calls_later (HCN.out _ (Later.below _)) | with_reducible exact calls_later_same (HTU.out _))
  refine wpQuiet_nil ?_; intro w9 hb9
  have HB := bwt HB hb9
  have K1 := Lib.hid (K1.out.below hb9)
  clear hb9 c1 c1_1 c1_2 c1_3 c1_4 c1_5 c1_6 c1_7 c1_8 l1 HCN
  go_wp2_with fail
  refine (HSF.out _ HB.out).mono ?_
  rintro e10 w10 ⟨rfl, hb10⟩
  have HB := bwt HB hb10
  have K1 := Lib.hid (K1.out.below hb10)
  clear hb10 HSF
  go_wp2_with fail
  refine (t_first2 _ _ _ _ _ _ (by rfl) (by simp)).mono ?_
  rintro e11 w11 ⟨rfl, hw11⟩
  have hb11 : Below w10.heap.size w10 w11 := by rw [← hw11]; (first|exact bwg|go_size)
  have HB := bwt HB hb11
  have K1 := Lib.hid (K1.out.below hb11)
  clear hb11 hw11
  rw [← HC3.out]
  by_cases h0 : C3 = 0
  ·subst h0
   have HVY := Lib.hid (HVX.out.trans (if_neg (by simp)))
   have HBK1 := Lib.hid (HBK0.out rfl)
   have HXB := Lib.hid (HXB0.out rfl)
   clear HBK0 HXB0 HVX HC3
   go_wp2_with fail
   refine (HHA.out _).mono ?_
   rintro e12 w12 ⟨rfl, rfl⟩
   cases TB
   ·have HVZ := Lib.hid (HVY.out.trans (if_pos rfl))
    go_wp2
    go_ret
    exact ⟨ret_int (by rw [HVZ.out]), HB.out⟩
   ·have HVZ := Lib.hid (HVY.out.trans (if_neg (by simp)))
    obtain ⟨c1, c1_1, c1_2, c1_3, c1_4, c1_5, c1_6, c1_7, c1_8, l1⟩ := blkc9 K1.out
    clear HVY
    go_wp2_with fail
    go_loopw [44] (fun x wr => ∃ k : Nat, x = .int .i64 (k : Int) ∧ k ≤ 2 ∧ Hid (1 ≤ k → lodE m ⟨vo, lo, hi, ci, br, re⟩ s i lo = 0) ∧ Hid (2 ≤ k → lodE m ⟨vo, lo, hi, ci, br, re⟩ s i hi = 0) ∧ Hid (Below w11.heap.size w11 wr)) (fun x _ => 2 - (intOf x).toNat)
    case atStart => exact ⟨0, rfl, by omega, Lib.hid (by omega), Lib.hid (by omega), Lib.hid (Below.refl _ _)⟩
    case round =>
     clear c1 c1_1 c1_2 c1_3 c1_4 c1_5 c1_6 c1_7 c1_8 l1
     obtain ⟨k, rfl, hk2, HL0, HL1, HN⟩ := hrel
     have HBx := bwt HB HN.out
     have HBK := HBK1
     have Kr := Lib.hid (K1.out.below HN.out)
     obtain ⟨c1, c1_1, c1_2, c1_3, c1_4, c1_5, c1_6, c1_7, c1_8, l1⟩ := blkc9 Kr.out
     obtain rfl | rfl | rfl : k = 0 ∨ k = 1 ∨ k = 2 := by omega
     ·skip
      obtain ⟨BC, hBC⟩ : ∃ x, x = brkC m ⟨vo, lo, hi, ci, br, re⟩ s i lo := ⟨_, rfl⟩
      obtain ⟨BV, hBV⟩ : ∃ x, x = brkV m ⟨vo, lo, hi, ci, br, re⟩ s i lo := ⟨_, rfl⟩
      obtain ⟨LE, hLE⟩ : ∃ x, x = lodE m ⟨vo, lo, hi, ci, br, re⟩ s i lo := ⟨_, rfl⟩
      have hlf := lodE_first m ⟨vo, lo, hi, ci, br, re⟩ s i lo
      obtain ⟨x1, x2⟩ := HXB.out lo HLL.out.1
      have hbk := fun (W : World) (hbw : Below wr.heap.size wr W) => HBK.out lo HLL.out.1 W (HBx.out.trans (hbw.mono HBx.out.size))
      rw [← hBC, ← hBV, ← hLE] at hlf
      rw [← hBC] at x1
      rw [← hBV] at x2
      rw [← hBC, ← hBV] at hbk
      obtain ⟨bc, bd⟩ := BC
      obtain ⟨bv, bw⟩ := BV
      simp only at hlf x1 x2 hbk
      have HBKX := Lib.hid hbk
      have HEX1 := Lib.hid (fun (W : World) => t_exceeds_any bc bd br W x1)
      have HEX2 := Lib.hid (fun (W : World) => t_exceeds_any bv bw re W x2)
      have HLF := Lib.hid hlf
      have HLE := Lib.hid hLE
      generalize decide (br * bd < bc) = B1 at *
      generalize decide (re * bw < bv) = B2 at *
      clear hbk hlf x1 x2 hBC hBV hLE
      go_wp2_with fail
      refine (HBKX.out _ (Below.refl _ _)).mono ?_
      rintro e11 w11 ⟨rfl, hb11⟩
      have K11 := Lib.hid (Kr.out.below hb11)
      have HB11 := Lib.hid hb11
      clear hb11 c1 c1_1 c1_2 c1_3 c1_4 c1_5 c1_6 c1_7 c1_8 l1 HBKX
      go_wp2_with fail
      obtain ⟨w12, hW12⟩ : ∃ w12, w12 = w11.alloc (Obj.cells #[.int .i64 bc, .int .i64 bd, .int .i64 bv, .int .i64 bw] 148) := ⟨_, rfl⟩
      rw [← hW12]
      have hb12 : Below w11.heap.size w11 w12 := by rw [hW12]; (first|exact bwg|go_size)
      have k12 : BlkR w12 w11.heap.size (.cells #[.int .i64 bc, .int .i64 bd, .int .i64 bv, .int .i64 bw] 148) := by show w12.heap[w11.heap.size]? = _; rw [hW12]; exact heap_alloc_new _ _
      obtain ⟨X12, hX12⟩ : ∃ X, X = w11.heap.size := ⟨_, rfl⟩
      rw [← hX12] at k12
      simp only [← hX12]
      have K12 := Lib.hid k12
      have K11 := Lib.hid (K11.out.below hb12)
      have HB12 := bwt HB11 hb12
      clear hW12 hX12 k12 hb12
      obtain ⟨c1, c1_1, c1_2, c1_3, c1_4, c1_5, c1_6, c1_7, c1_8, l1⟩ := blkc9 K11.out
      obtain ⟨d0, d1, d2, d3, l12⟩ := blkc4 K12.out
      go_wp2_with fail
      refine later_of_eq 13 (by kernel_rfl) (by kernel_rfl) ?_; simp only [List.take_succ_cons, List.take_zero, List.drop_succ_cons, List.drop_zero]; repeat go_big_quiet_step(first | with_reducible exact calls_later (HEX1.out _) | with_reducible exact calls_later_same (HU.out _ _ _))
      refine wpQuiet_nil ?_; intro w13 hb13
      have HB13 := bwt HB12 hb13
      clear d0 d1 d2 d3 l12 c1 c1_1 c1_2 c1_3 c1_4 c1_5 c1_6 c1_7 c1_8 l1 hb13
      go_wp2_with fail
      refine (HEX2.out _).mono ?_
      rintro e14 w14 ⟨rfl, hb14⟩
      have HB14 := bwt HB13 hb14
      clear hb14
      cases B2
      all_goals
       go_wp2_with fail
       refine (t_unless_any _ _ _).mono ?_
       rintro e15 w15 ⟨rfl, rfl⟩
       go_wp2_with fail
       refine (t_first2 _ _ _ _ _ _ (by rfl) (by simp)).mono ?_
       rintro e16 w16 ⟨rfl, hw16⟩
       have hb16 : Below w14.heap.size w14 w16 := by rw [← hw16]; (first|exact bwg|go_size)
       have HB16 := bwt HB14 hb16
       clear hb16 hw16
       generalize hFE : firstErr [unl (!B1) 22, _] = FE
       obtain rfl : FE = LE := by rw [← hFE, HLF.out]; rfl
       clear hFE HLF
       by_cases hLE : FE = 0
       ·subst hLE
        go_wp2_with fail
        go_roundw
        case rel => exact ⟨1, by go_num, by decide, Lib.hid (fun _ => by first | exact HLE.out.symm | exact HL0.out (by omega)), Lib.hid (fun h => by first | exact absurd h (by decide) | exact HLE.out.symm), bwt HN HB16.out⟩
        case measure => simp [intOf]
       ·have hv := HVZ.out
        have hv2 : V = FE := by
         first
          | (rw [hv, ← HLE.out, if_pos hLE])
          | (rw [hv, HL0.out (by omega), ← HLE.out, if_neg (by simp)])
        have HVW := Lib.hid hv2
        have e1 := bne_iff_ne.2 hLE
        clear hv hv2 hLE
        go_wp2
        go_ret
        exact ⟨ret_int (by rw [HVW.out]), HBx.out.trans (HB16.out.mono HBx.out.size)⟩
     ·skip
      obtain ⟨BC, hBC⟩ : ∃ x, x = brkC m ⟨vo, lo, hi, ci, br, re⟩ s i hi := ⟨_, rfl⟩
      obtain ⟨BV, hBV⟩ : ∃ x, x = brkV m ⟨vo, lo, hi, ci, br, re⟩ s i hi := ⟨_, rfl⟩
      obtain ⟨LE, hLE⟩ : ∃ x, x = lodE m ⟨vo, lo, hi, ci, br, re⟩ s i hi := ⟨_, rfl⟩
      have hlf := lodE_first m ⟨vo, lo, hi, ci, br, re⟩ s i hi
      obtain ⟨x1, x2⟩ := HXB.out hi HLL.out.2
      have hbk := fun (W : World) (hbw : Below wr.heap.size wr W) => HBK.out hi HLL.out.2 W (HBx.out.trans (hbw.mono HBx.out.size))
      rw [← hBC, ← hBV, ← hLE] at hlf
      rw [← hBC] at x1
      rw [← hBV] at x2
      rw [← hBC, ← hBV] at hbk
      obtain ⟨bc, bd⟩ := BC
      obtain ⟨bv, bw⟩ := BV
      simp only at hlf x1 x2 hbk
      have HBKX := Lib.hid hbk
      have HEX1 := Lib.hid (fun (W : World) => t_exceeds_any bc bd br W x1)
      have HEX2 := Lib.hid (fun (W : World) => t_exceeds_any bv bw re W x2)
      have HLF := Lib.hid hlf
      have HLE := Lib.hid hLE
      generalize decide (br * bd < bc) = B1 at *
      generalize decide (re * bw < bv) = B2 at *
      clear hbk hlf x1 x2 hBC hBV hLE
      go_wp2_with fail
      refine (HBKX.out _ (Below.refl _ _)).mono ?_
      rintro e11 w11 ⟨rfl, hb11⟩
      have K11 := Lib.hid (Kr.out.below hb11)
      have HB11 := Lib.hid hb11
      clear hb11 c1 c1_1 c1_2 c1_3 c1_4 c1_5 c1_6 c1_7 c1_8 l1 HBKX
      go_wp2_with fail
      obtain ⟨w12, hW12⟩ : ∃ w12, w12 = w11.alloc (Obj.cells #[.int .i64 bc, .int .i64 bd, .int .i64 bv, .int .i64 bw] 148) := ⟨_, rfl⟩
      rw [← hW12]
      have hb12 : Below w11.heap.size w11 w12 := by rw [hW12]; (first|exact bwg|go_size)
      have k12 : BlkR w12 w11.heap.size (.cells #[.int .i64 bc, .int .i64 bd, .int .i64 bv, .int .i64 bw] 148) := by show w12.heap[w11.heap.size]? = _; rw [hW12]; exact heap_alloc_new _ _
      obtain ⟨X12, hX12⟩ : ∃ X, X = w11.heap.size := ⟨_, rfl⟩
      rw [← hX12] at k12
      simp only [← hX12]
      have K12 := Lib.hid k12
      have K11 := Lib.hid (K11.out.below hb12)
      have HB12 := bwt HB11 hb12
      clear hW12 hX12 k12 hb12
      obtain ⟨c1, c1_1, c1_2, c1_3, c1_4, c1_5, c1_6, c1_7, c1_8, l1⟩ := blkc9 K11.out
      obtain ⟨d0, d1, d2, d3, l12⟩ := blkc4 K12.out
      go_wp2_with fail
      refine later_of_eq 13 (by kernel_rfl) (by kernel_rfl) ?_; simp only [List.take_succ_cons, List.take_zero, List.drop_succ_cons, List.drop_zero]; repeat go_big_quiet_step(first | with_reducible exact calls_later (HEX1.out _) | with_reducible exact calls_later_same (HU.out _ _ _))
      refine wpQuiet_nil ?_; intro w13 hb13
      have HB13 := bwt HB12 hb13
      clear d0 d1 d2 d3 l12 c1 c1_1 c1_2 c1_3 c1_4 c1_5 c1_6 c1_7 c1_8 l1 hb13
      go_wp2_with fail
      refine (HEX2.out _).mono ?_
      rintro e14 w14 ⟨rfl, hb14⟩
      have HB14 := bwt HB13 hb14
      clear hb14
      cases B2
      all_goals
       go_wp2_with fail
       refine (t_unless_any _ _ _).mono ?_
       rintro e15 w15 ⟨rfl, rfl⟩
       go_wp2_with fail
       refine (t_first2 _ _ _ _ _ _ (by rfl) (by simp)).mono ?_
       rintro e16 w16 ⟨rfl, hw16⟩
       have hb16 : Below w14.heap.size w14 w16 := by rw [← hw16]; (first|exact bwg|go_size)
       have HB16 := bwt HB14 hb16
       clear hb16 hw16
       generalize hFE : firstErr [unl (!B1) 22, _] = FE
       obtain rfl : FE = LE := by rw [← hFE, HLF.out]; rfl
       clear hFE HLF
       by_cases hLE : FE = 0
       ·subst hLE
        go_wp2_with fail
        go_roundw
        case rel => exact ⟨2, by go_num, by decide, Lib.hid (fun _ => by first | exact HLE.out.symm | exact HL0.out (by omega)), Lib.hid (fun h => by first | exact absurd h (by decide) | exact HLE.out.symm), bwt HN HB16.out⟩
        case measure => simp [intOf]
       ·have hv := HVZ.out
        have hv2 : V = FE := by
         first
          | (rw [hv, ← HLE.out, if_pos hLE])
          | (rw [hv, HL0.out (by omega), ← HLE.out, if_neg (by simp)])
        have HVW := Lib.hid hv2
        have e1 := bne_iff_ne.2 hLE
        clear hv hv2 hLE
        go_wp2
        go_ret
        exact ⟨ret_int (by rw [HVW.out]), HBx.out.trans (HB16.out.mono HBx.out.size)⟩
     ·have h1 := HL0.out (by omega)
      have h2 := HL1.out (by omega)
      have hv := HVZ.out
      rw [h1, h2] at hv
      have HVW := Lib.hid hv
      clear h1 h2 hv
      go_wp2
      go_ret
      exact ⟨ret_int (by rw [HVW.out]; rfl), HBx.out⟩
  ·have HVY := Lib.hid (HVX.out.trans (if_pos h0))
   have e1 := bne_iff_ne.2 h0
   clear h0 HBK0 HXB0 HVX
   go_wp2
   go_ret
   exact ⟨ret_int (by rw [HVY.out]), HB.out⟩
end Go.Proofs.YtdjinmieogpgcaaGreat
