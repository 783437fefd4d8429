import Derived.Test.YtppkckbnjnenfaaGreatMTAwk0
import Derived.Test.YtppkckbnjnenfaaGreatTWeaR
/- After how many ticks a pair rests: the program's exported function; the chapter is awake. (Printed by gen_setp.py.) -/
namespace Go.Proofs.YtppkckbnjnenfaaGreat
open Go.RowKit Go.Shelf
set_option linter.unusedVariables false
set_option linter.unusedSimpArgs false
def PrO (p : Pai) (d n e : Int) : Prop := (prdE p d ≠ 0 ∧ n = 0 ∧ e = prdE p d) ∨ (prdE p d = 0 ∧ ∃ T fr, Rep (tickP d) p T fr ∧ ((lastM (tickP d) (mvP d) p T ≤ fr ∧ n = ((lastM (tickP d) (mvP d) p T : Nat) : Int) ∧ e = 0) ∨ (¬ lastM (tickP d) (mvP d) p T ≤ fr ∧ n = 0 ∧ e = 21)))
theorem prdE_zero {p : Pai} {d : Int} (h : prdE p d = 0) : PaiV p ∧ -10000 ≤ d ∧ d ≤ 10000 := by
 unfold prdE at h
 rw [firstErr_zero', firstErr_zero', firstErr_zero', firstErr_zero', firstErr_zero', regE_zero, regE_zero, momE_zero, momE_zero, swE_zero] at h
 exact ⟨⟨h.1, h.2.1, h.2.2.1, h.2.2.2.1⟩, h.2.2.2.2.1⟩
set_option maxHeartbeats 2000000 in
set_option maxRecDepth 100000 in
theorem pairRests_any (p : Pai) (d : Int) (w : World) :
    Calls Tryz.prog 10 #[.agg #[.int .i64 p.a.tgt, .int .i64 p.a.band, .int .i64 p.a.dly, .int .i64 p.a.stp, .int .i64 p.a.lo, .int .i64 p.a.hi, .int .i64 p.b.tgt, .int .i64 p.b.band, .int .i64 p.b.dly, .int .i64 p.b.stp, .int .i64 p.b.lo, .int .i64 p.b.hi, .int .i64 p.ma.tap, .int .i64 p.ma.wait, .int .i64 p.mb.tap, .int .i64 p.mb.wait], .int .i64 d] w fun e' w' => Below w.heap.size w w' ∧ ∃ n e, e' = .returned (.tuple #[.int .i64 n, .int .i64 e]) ∧ PrO p d n e := by
 have HE := Lib.hid (fun (W : World) => pairErr_any p d W)
 have HS := Lib.hid (fun (h : prdE p d = 0) (XD : Nat) (W : World) (h2 : BlkR W XD (.cells #[.int .i64 d] 3)) => restP_any p d XD W (prdE_zero h).1 (prdE_zero h).2 h2)
 have HO1 := Lib.hid (fun (h : prdE p d ≠ 0) => show PrO p d 0 (prdE p d) from .inl ⟨h, rfl, rfl⟩)
 have HO2 := Lib.hid (fun (h : prdE p d = 0) (T fr : Nat) (hr : Rep (tickP d) p T fr) (hl : lastM (tickP d) (mvP d) p T ≤ fr) => show PrO p d ((lastM (tickP d) (mvP d) p T : Nat) : Int) 0 from .inr ⟨h, T, fr, hr, .inl ⟨hl, rfl, rfl⟩⟩)
 have HO3 := Lib.hid (fun (h : prdE p d = 0) (T fr : Nat) (hr : Rep (tickP d) p T fr) (hl : ¬ lastM (tickP d) (mvP d) p T ≤ fr) => show PrO p d 0 21 from .inr ⟨h, T, fr, hr, .inr ⟨hl, rfl, rfl⟩⟩)
 generalize PrO p d = PO at *
 generalize itr (tickP d) p = ST at *
 generalize Rep (tickP d) p = RP at *
 generalize lastM (tickP d) (mvP d) p = LA at *
 generalize prdE p d = E at *
 obtain ⟨⟨p0, p1, p2, p3, p4, p5⟩, ⟨p6, p7, p8, p9, p10, p11⟩, ⟨p12, p13⟩, ⟨p14, p15⟩⟩ := p
 simp only at HE HS ⊢
 go_enter Tryz.func10, Tryz.ntmps10
 go_wp2_with fail
 obtain ⟨w2, hW2⟩ : ∃ w2, w2 = (w.alloc (Obj.cells #[.int .i64 p0, .int .i64 p1, .int .i64 p2, .int .i64 p3, .int .i64 p4, .int .i64 p5, .int .i64 p6, .int .i64 p7, .int .i64 p8, .int .i64 p9, .int .i64 p10, .int .i64 p11, .int .i64 p12, .int .i64 p13, .int .i64 p14, .int .i64 p15] 29)).alloc (Obj.cells #[.int .i64 d] 3) := ⟨_, rfl⟩
 rw [← hW2]
 have hb2 : Below w.heap.size w w2 := by rw [hW2]; (first|exact bwg|go_size)
 have k2 : BlkR w2 w.heap.size (.cells #[.int .i64 p0, .int .i64 p1, .int .i64 p2, .int .i64 p3, .int .i64 p4, .int .i64 p5, .int .i64 p6, .int .i64 p7, .int .i64 p8, .int .i64 p9, .int .i64 p10, .int .i64 p11, .int .i64 p12, .int .i64 p13, .int .i64 p14, .int .i64 p15] 29) := by
  show w2.heap[w.heap.size]? = _
  rw [hW2, Below.heap_alloc _ _ _ (by simp)]; exact heap_alloc_new _ _
 have k3 : BlkR w2 (w.heap.size + 1) (.cells #[.int .i64 d] 3) := by
  show w2.heap[w.heap.size + 1]? = _
  rw [hW2]
  have := heap_alloc_new (w.alloc (Obj.cells #[.int .i64 p0, .int .i64 p1, .int .i64 p2, .int .i64 p3, .int .i64 p4, .int .i64 p5, .int .i64 p6, .int .i64 p7, .int .i64 p8, .int .i64 p9, .int .i64 p10, .int .i64 p11, .int .i64 p12, .int .i64 p13, .int .i64 p14, .int .i64 p15] 29)) (Obj.cells #[.int .i64 d] 3)
  rwa [World.size_alloc] at this
 obtain ⟨X2, hX2⟩ : ∃ X, X = w.heap.size := ⟨_, rfl⟩
 obtain ⟨X3, hX3⟩ : ∃ X, X = w.heap.size + 1 := ⟨_, rfl⟩
 rw [← hX3] at k3
 rw [← hX2] at k2
 simp only [← hX3]
 simp only [← hX2]
 clear hW2 hX2 hX3
 refine (HE.out w2).mono ?_
 rintro e5 w5 ⟨rfl, hb5⟩
 have K2 := Lib.hid (k2.below hb5)
 have K3 := Lib.hid (k3.below hb5)
 have HB := Lib.hid (hb2.trans (hb5.mono hb2.size))
 clear k2 k3 hb2 hb5 HE
 by_cases h0 : E = 0
 ·subst h0
  have HSW := Lib.hid (HS.out rfl X3 w5 K3.out)
  have c_0 := blk_cell K2.out (i := 0) rfl
  have c_1 := blk_cell K2.out (i := 1) rfl
  have c_2 := blk_cell K2.out (i := 2) rfl
  have c_3 := blk_cell K2.out (i := 3) rfl
  have c_4 := blk_cell K2.out (i := 4) rfl
  have c_5 := blk_cell K2.out (i := 5) rfl
  have c_6 := blk_cell K2.out (i := 6) rfl
  have c_7 := blk_cell K2.out (i := 7) rfl
  have c_8 := blk_cell K2.out (i := 8) rfl
  have c_9 := blk_cell K2.out (i := 9) rfl
  have c_10 := blk_cell K2.out (i := 10) rfl
  have c_11 := blk_cell K2.out (i := 11) rfl
  have c_12 := blk_cell K2.out (i := 12) rfl
  have c_13 := blk_cell K2.out (i := 13) rfl
  have c_14 := blk_cell K2.out (i := 14) rfl
  have c_15 := blk_cell K2.out (i := 15) rfl
  have l2 := K2.out.lt
  clear HS
  go_wp2_with fail
  refine HSW.out.mono ?_
  rintro e7 w7 ⟨hb7, T, fr, hrp, rfl⟩
  have HRP := Lib.hid hrp
  have HB := bwt HB hb7
  clear c_0 c_1 c_2 c_3 c_4 c_5 c_6 c_7 c_8 c_9 c_10 c_11 c_12 c_13 c_14 c_15 l2 hb7 hrp HSW
  generalize ST T = S at *
  obtain ⟨⟨s0, s1, s2, s3, s4, s5⟩, ⟨s6, s7, s8, s9, s10, s11⟩, ⟨s12, s13⟩, ⟨s14, s15⟩⟩ := S
  by_cases hl : LA T ≤ fr
  ·have hl1 : decide (LA T ≤ fr) = true := decide_eq_true hl
   have HPO := Lib.hid (HO2.out (by trivial) T fr HRP.out hl)
   rw [hl1]
   clear hl hl1
   go_wp2
   go_ret2
   exact ⟨by have := HB.out; exact this.alloc this.size _, _, _, rfl, HPO.out⟩
  ·have hl1 : decide (LA T ≤ fr) = false := decide_eq_false hl
   have HPO := Lib.hid (HO3.out (by trivial) T fr HRP.out hl)
   rw [hl1]
   clear hl hl1
   go_wp2
   go_ret2
   exact ⟨by have := HB.out; exact this.alloc this.size _, _, _, rfl, HPO.out⟩
 ·have e1 := bne_iff_ne.2 h0
  have HPO := Lib.hid (HO1.out h0)
  clear h0 HS
  go_wp2
  go_ret2
  exact ⟨HB.out, _, _, rfl, HPO.out⟩
theorem awake_any (w : World) : Calls Tryz.prog 8 #[] w fun e' w' => e' = .returned (.bool true) ∧ Below w.heap.size w w' :=
 awake_of w fun W => (pairRests_any pai0 90 W).mono fun e w' h => by
  obtain ⟨hb, n, e', rfl, h⟩ := h
  refine ⟨?_, hb⟩
  have hz : prdE pai0 90 = 0 := by decide
  rcases h with ⟨h, _⟩ | ⟨_, T, fr, hr, h⟩
  ·exact absurd hz h
  ·obtain ⟨rfl, rfl⟩ := hr.uniq repP0
   rw [setP0] at h
   rcases h with ⟨_, rfl, rfl⟩ | ⟨h, _⟩
   ·rfl
   ·simp at h
/- The law TapRuns: all states that are reached, the states of a run, and its wear are as specified. -/
theorem fr1 {x : Int} {l : List Int} (h : x ≠ 0) : firstErr (x :: l) = x := by show (if x = 0 then _ else x) = x; rw [if_neg h]
theorem fr0 {l : List Int} : firstErr (0 :: l) = firstErr l := by show (if (0 : Int) = 0 then _ else _) = _; rw [if_pos rfl]
structure RunL (m : Mac) (l : Lim) (c : List Int) (z : Int) (ME LE : Int) (AL S : List Nat) (RX WX : Int × Int) (WV : List (Int × Int)) : Prop where
 pa : ME ≠ 0 → AL = [] ∧ S = [] ∧ WV = [] ∧ RX = (0, ME) ∧ WX = (0, ME)
 pb : ME = 0 → MacV m ∧ AL = reaS m
 pc : ME = 0 → LE ≠ 0 → S = [] ∧ WV = [] ∧ RX = (0, LE) ∧ WX = (0, LE)
 pd : ME = 0 → LE = 0 → limE l = 0 ∧ opnE m l = 0 ∧ RX = runX m l c ∧ S = runV m l c
theorem runLaw (m : Mac) (l : Lim) (c : List Int) (z : Int) : RunL m l c z (macE m).2 (limE l) (reoV m) (rofV m l c) (rofX m l c) (weaX m l c z) (weaV m l c z) := by
 have hop : opnE m l = firstErr [(macE m).2, limE l] := rfl
 refine ⟨fun h => ?_, fun h => ?_, fun h h2 => ?_, fun h h2 => ?_⟩
 ·have h1 : opnE m l = (macE m).2 := by rw [hop]; exact fr1 h
  have h3 : opnE m l ≠ 0 := by rw [h1]; exact h
  have h4 : weaX m l c z = (0, (macE m).2) := by unfold weaX; rw [if_pos h3, h1]
  refine ⟨by unfold reoV; rw [if_pos h], by unfold rofV; rw [if_pos h3], by unfold weaV; rw [h4, if_pos h], by unfold rofX; rw [if_pos h3, h1], h4⟩
 ·exact ⟨(macE_zero h).2, by unfold reoV; rw [if_neg (by rw [h]; exact fun h => h rfl)]⟩
 ·have h1 : opnE m l = limE l := by rw [hop, h, fr0]; exact fr1 h2
  have h3 : opnE m l ≠ 0 := by rw [h1]; exact h2
  have h4 : weaX m l c z = (0, limE l) := by unfold weaX; rw [if_pos h3, h1]
  refine ⟨by unfold rofV; rw [if_pos h3], by unfold weaV; rw [h4, if_pos h2], by unfold rofX; rw [if_pos h3, h1], h4⟩
 ·have h1 : opnE m l = 0 := by rw [hop, h, fr0, h2, fr0]; rfl
  refine ⟨h2, h1, by unfold rofX; rw [if_neg (by rw [h1]; exact fun h => h rfl)], ?_⟩
  unfold rofV
  rw [if_neg (by rw [h1]; exact fun h => h rfl)]
  split
  ·next h5 => unfold runV; rw [if_pos h5]
  ·rfl
set_option maxHeartbeats 4000000 in
set_option maxRecDepth 100000 in
theorem run_law (m : Mac) (l : Lim) (c : List Int) (z : Int) (ac ab ag : Option Addr) (n cc nb cb ng cg : Nat) (w : World) (hb : BrR w ab nb m.br) (hg : GrR w ag ng m.gs) (hc : IntsR w ac n c) :
    Calls Tryz.prog 6 #[.agg #[.slice ab nb cb, .int .i64 m.st, .slice ag ng cg], .agg #[.int .i64 l.volt, .int .i64 l.lo, .int .i64 l.hi, .int .i64 l.circ, .int .i64 l.brk, .int .i64 l.ret], .agg #[.slice ac n cc, .int .i64 z]] w fun e' w' => e' = .returned (.bool true) ∧ Below w.heap.size w w' := by
 have HFW := Lib.hid (fun (W : World) => few_any m.st ab ag nb cb ng cg W hb.small hg.small)
 have HCP0 := Lib.hid (fun (h1 : nb ≤ 8) (h2 : ng ≤ 32) (W : World) (hbw : Below w.heap.size w W) => copyM_any m ab ag nb cb ng cg W (hb.below hbw) (hg.below hbw) (by omega) (by omega))
 have HCI0 := Lib.hid (fun (h1 : (n : Int) ≤ 42) (W : World) (hbw : Below w.heap.size w W) => copyInts_any c ac n cc W (hc.below hbw) (by omega))
 have HRE := Lib.hid (fun (a1 a2 : Option Addr) (c1 c2 : Nat) (W : World) (h1 : BrR W a1 nb m.br) (h2 : GrR W a2 ng m.gs) => reachableOf_any m a1 a2 nb c1 ng c2 W h1 h2)
 have HRO := Lib.hid (fun (a1 a2 a3 : Option Addr) (c1 c2 c3 : Nat) (W : World) (h1 : BrR W a1 nb m.br) (h2 : GrR W a2 ng m.gs) (h3 : IntsR W a3 n c) => runOf_any m l c a3 a1 a2 n c3 nb c1 ng c2 W h1 h2 h3)
 have HWE := Lib.hid (fun (a1 a2 a3 : Option Addr) (c1 c2 c3 : Nat) (W : World) (h1 : BrR W a1 nb m.br) (h2 : GrR W a2 ng m.gs) (h3 : IntsR W a3 n c) => wearOf_any m l c z a3 a1 a2 n c3 nb c1 ng c2 W h1 h2 h3)
 have HME := Lib.hid (fun (W : World) (hbw : Below w.heap.size w W) => machineErr_any m ab ag nb cb ng cg W (hb.below hbw) (hg.below hbw))
 have HLE := Lib.hid (fun (W : World) => rLimE_any l W)
 have HRR := Lib.hid (fun (hm : MacV m) (W : World) (hbw : Below w.heap.size w W) => rReachable_any m ab ag nb cb ng cg W hm (hb.below hbw) (hg.below hbw))
 have HRU := Lib.hid (fun (hm : MacV m) (hl : limE l = 0) (W : World) (hbw : Below w.heap.size w W) => rRun_any m l c ac ab ag n cc nb cb ng cg W hm hl (hb.below hbw) (hg.below hbw) (hc.below hbw))
 have HRW := Lib.hid (fun (hop : opnE m l = 0) (W : World) (hbw : Below w.heap.size w W) => rWear_any m l c z ac ab ag n cc nb cb ng cg W hop (hb.below hbw) (hg.below hbw) (hc.below hbw))
 have HL := Lib.hid (runLaw m l c z)
 have hcs := hc.small
 generalize (macE m).2 = ME at *
 generalize limE l = LE at HLE HL
 generalize reoV m = AL at *
 generalize rofV m l c = SV at *
 generalize rofX m l c = RX at *
 generalize weaX m l c z = WX at *
 generalize weaV m l c z = WV at *
 obtain ⟨RI, RF⟩ := RX
 obtain ⟨WI, WF⟩ := WX
 obtain ⟨st, hst⟩ : ∃ x, x = m.st := ⟨_, rfl⟩
 rw [← hst] at HFW HCP0 HRE HRO HWE HME HRR HRU HRW ⊢
 clear hb hg hc hst
 obtain ⟨vo, lo, hi', ci, br, re⟩ := l
 simp only at HRO HWE HLE HRU HRW ⊢
 generalize hLM : (⟨vo, lo, hi', ci, br, re⟩ : Lim) = L at *
 have HLM := Lib.hid hLM
 clear hLM
 go_enter Tryz.func6, Tryz.ntmps6
 go_wp2_with fail
 obtain ⟨w1, hW⟩ : ∃ w1, w1 = (((w.alloc (Obj.cells #[.slice ab nb cb, .int .i64 st, .slice ag ng cg] 45)).alloc (Obj.cells #[.int .i64 vo, .int .i64 lo, .int .i64 hi', .int .i64 ci, .int .i64 br, .int .i64 re] 47)).alloc (Obj.cells #[.slice ac n cc, .int .i64 z] 78)) := ⟨_, rfl⟩
 obtain ⟨hb1, k3, k4, k5⟩ := alA3 w (Obj.cells #[.slice ab nb cb, .int .i64 st, .slice ag ng cg] 45) (Obj.cells #[.int .i64 vo, .int .i64 lo, .int .i64 hi', .int .i64 ci, .int .i64 br, .int .i64 re] 47) (Obj.cells #[.slice ac n cc, .int .i64 z] 78)
 rw [← hW]
 rw [← hW] at hb1 k3 k4 k5
 obtain ⟨X3, hX3⟩ : ∃ X, X = w.heap.size := ⟨_, rfl⟩
 obtain ⟨X4, hX4⟩ : ∃ X, X = w.heap.size + 1 := ⟨_, rfl⟩
 obtain ⟨X5, hX5⟩ : ∃ X, X = w.heap.size + 1 + 1 := ⟨_, rfl⟩
 rw [← hX5] at k5
 rw [← hX4] at k4
 have k3 : BlkR w1 X3 (.cells #[.slice ab nb cb, .int .i64 st, .slice ag ng cg] 45) := by rw [hX3]; exact k3
 simp only [← hX5]
 simp only [← hX4]
 simp only [← hX3]
 refine (awake_any w1).mono ?_
 rintro e2 w2 ⟨rfl, hb2⟩
 have K3 := Lib.hid (k3.below hb2)
 have K4 := Lib.hid (k4.below hb2)
 have K5 := Lib.hid (k5.below hb2)
 have HB := Lib.hid (hb1.trans (hb2.mono hb1.size))
 clear hW hX3 hX4 hX5 hb1 hb2 k3 k4 k5
 obtain ⟨q0, q1, q2, _⟩ := blkc3 K3.out
 obtain ⟨u0, u1, u2, u3, u4, u5, _⟩ := blkc6 K4.out
 obtain ⟨p0, p1, _⟩ := blkc2 K5.out
 have l3 := K3.out.lt
 have l4 := K4.out.lt
 have l5 := K5.out.lt
 go_wp2_with fail
 refine (HFW.out _).mono ?_
 rintro e3 w3 ⟨rfl, hb3⟩
 have K3 := Lib.hid (K3.out.below hb3)
 have K4 := Lib.hid (K4.out.below hb3)
 have K5 := Lib.hid (K5.out.below hb3)
 have HB := bwt HB hb3
 clear q0 q1 q2 u0 u1 u2 u3 u4 u5 p0 p1 l3 l4 l5
 clear hb3 HFW
 by_cases hfew : nb ≤ 8 ∧ ng ≤ 32
 ·obtain ⟨h8, h32⟩ := hfew
  have HCP := Lib.hid (HCP0.out h8 h32)
  have e81 : (decide (nb ≤ 8) && decide (ng ≤ 32)) = true := by rw [decide_eq_true h8, decide_eq_true h32]; rfl
  rw [e81]
  clear e81 HCP0 h8 h32
  obtain ⟨q0, q1, q2, _⟩ := blkc3 K3.out
  obtain ⟨u0, u1, u2, u3, u4, u5, _⟩ := blkc6 K4.out
  obtain ⟨p0, p1, _⟩ := blkc2 K5.out
  have l3 := K3.out.lt
  have l4 := K4.out.lt
  have l5 := K5.out.lt
  by_cases h42 : (n : Int) ≤ 42
  ·have i42 : ¬ 42 < (n : Int) := by omega
   have HCI := Lib.hid (HCI0.out h42)
   clear HCI0
   go_wp2_with fail
   refine (HCP.out _ HB.out).mono ?_
   rintro e4 w4 ⟨a1, p1', a2, p2', rfl, hb4, hbr1, hgr1⟩
   have HB4 := Lib.hid hb4
   have HBR := Lib.hid hbr1
   have HGR := Lib.hid hgr1
   clear hb4 hbr1 hgr1
   go_wp2_with fail
   refine (HRE.out a1 a2 p1' p2' _ HBR.out HGR.out).mono ?_
   rintro e5 w5 ⟨aa, na, ca, rfl, hb5, hall⟩
   have HAL := Lib.hid hall
   have hb45 := HB4.out.trans (hb5.mono HB4.out.size)
   clear q0 q1 q2 u0 u1 u2 u3 u4 u5 p0 p1 l3 l4 l5
   have K3 := Lib.hid (K3.out.below hb45)
   have K4 := Lib.hid (K4.out.below hb45)
   have K5 := Lib.hid (K5.out.below hb45)
   have HB := bwt HB hb45
   clear hb45 hb5 hall HB4 HBR HGR HRE
   obtain ⟨q0, q1, q2, _⟩ := blkc3 K3.out
   obtain ⟨u0, u1, u2, u3, u4, u5, _⟩ := blkc6 K4.out
   obtain ⟨p0, p1, _⟩ := blkc2 K5.out
   have l3 := K3.out.lt
   have l4 := K4.out.lt
   have l5 := K5.out.lt
   go_wp2_with fail
   go_cut [9, 10, 11] from 40 to 51 (fun v9 v10 v11 wx => ∃ (sa : Option Addr) (ns cs : Nat), v9 = .slice sa ns cs ∧ v10 = .int .i64 RI ∧ v11 = .int .i64 RF ∧ Hid (IntsR wx sa ns (nats SV)) ∧ Hid (Below w5.heap.size w5 wx))
   case first =>
    have HN := Lib.hid (Below.refl w5.heap.size w5).drew
    refine wp_region_laterT (B := w5.heap.size) (.head 0 (.head 2 (.head 3 (.head 4 (.one 1 (.one 5 (.one 6 (.head 7 (.head 8 (.head 9 (.head 10 (.head 11 (.head 12 (.head 13 .done)))))))))))))) (by kernel_rfl) (by kernel_rfl) ?_
    repeat (refine tree_head rfl ?_; (show wpQuiet _ _ _ _ (_ :: _) _; go_big_quiet_step (fail)); refine wpQuiet_nil ?_)
    refine tree_one rfl ?_
    go_wp2_with fail
    refine (HCP.out _ (HB.out.trans (HN.out.mono HB.out.size))).mono ?_
    rintro e1 wx1 ⟨a1, p1', a2, p2', rfl, hbx, hbr1, hgr1⟩
    have HBR := Lib.hid hbr1
    have HGR := Lib.hid hgr1
    clear hbr1 hgr1
    have hzx := hbx.size
    have HN := bwt HN hbx
    clear hbx
    go_wp2_with fail
    refine tailL_mk HN.out ?_
    refine tree_one rfl ?_
    go_wp2_with fail
    refine (HCI.out _ (HB.out.trans (HN.out.mono HB.out.size))).mono ?_
    rintro e1 wx2 ⟨a3, c3, rfl, hbx, hin⟩
    have HIN := Lib.hid (show IntsR wx2 a3 n c from SlR.of_owns hin)
    clear hin
    have hzx := hbx.size
    have HN := bwt HN hbx
    have HBR := Lib.hid (HBR.out.below hbx)
    have HGR := Lib.hid (HGR.out.below hbx)
    clear hbx
    go_wp2_with fail
    refine tailL_mk HN.out ?_
    refine tree_one rfl ?_
    go_wp2_with fail
    refine (HRO.out a1 a2 a3 p1' p2' c3 _ HBR.out HGR.out HIN.out).mono ?_
    rintro e1 wx3 ⟨sa, ns, cs, rfl, hbx, hst⟩
    have HST := Lib.hid hst
    clear hst
    have hzx := hbx.size
    have HN := bwt HN hbx
    have HBR := Lib.hid (HBR.out.below hbx)
    have HGR := Lib.hid (HGR.out.below hbx)
    have HIN := Lib.hid (HIN.out.below hbx)
    clear hbx
    go_wp2_with fail
    refine tailL_mk HN.out ?_
    repeat (refine tree_head rfl ?_; (show wpQuiet _ _ _ _ (_ :: _) _; go_big_quiet_step (fail)); refine wpQuiet_nil ?_)
    refine tree_done ?_
    go_wp2_with fail
    go_meet
    case rel => exact ⟨sa, ns, cs, rfl, rfl, rfl, HST, HN⟩
   case rest =>
    obtain ⟨w6, rfl⟩ : ∃ w', w' = wc := ⟨wc, rfl⟩
    obtain ⟨sa, ns, cs, rfl, rfl, rfl, HST, HQ⟩ := hcut
    have hbq := HQ.out
    clear q0 q1 q2 u0 u1 u2 u3 u4 u5 p0 p1 l3 l4 l5
    have K3 := Lib.hid (K3.out.below hbq)
    have K4 := Lib.hid (K4.out.below hbq)
    have K5 := Lib.hid (K5.out.below hbq)
    have HB := bwt HB hbq
    have HAL := Lib.hid (IntsR.below HAL.out hbq)
    clear hbq
    obtain ⟨q0, q1, q2, _⟩ := blkc3 K3.out
    obtain ⟨u0, u1, u2, u3, u4, u5, _⟩ := blkc6 K4.out
    obtain ⟨p0, p1, _⟩ := blkc2 K5.out
    have l3 := K3.out.lt
    have l4 := K4.out.lt
    have l5 := K5.out.lt
    clear HQ HRO
    go_wp2_with fail
    go_cut [12, 13, 14] from 51 to 64 (fun v9 v10 v11 wx => ∃ (sa : Option Addr) (ns cs : Nat), v9 = .slice sa ns cs ∧ v10 = .int .i64 WI ∧ v11 = .int .i64 WF ∧ Hid (PairsR wx sa ns WV) ∧ Hid (Below w6.heap.size w6 wx))
    case first =>
     have HN := Lib.hid (Below.refl w6.heap.size w6).drew
     refine wp_region_laterT (B := w6.heap.size) (.head 0 (.head 2 (.head 3 (.head 4 (.head 6 (.head 7 (.one 1 (.one 5 (.one 8 (.head 9 (.head 10 (.head 11 (.head 12 (.head 13 (.head 14 (.head 15 .done)))))))))))))))) (by kernel_rfl) (by kernel_rfl) ?_
     repeat (refine tree_head rfl ?_; (show wpQuiet _ _ _ _ (_ :: _) _; go_big_quiet_step (fail)); refine wpQuiet_nil ?_)
     refine tree_one rfl ?_
     go_wp2_with fail
     refine (HCP.out _ (HB.out.trans (HN.out.mono HB.out.size))).mono ?_
     rintro e1 wx1 ⟨a1, p1', a2, p2', rfl, hbx, hbr1, hgr1⟩
     have HBR := Lib.hid hbr1
     have HGR := Lib.hid hgr1
     clear hbr1 hgr1
     have hzx := hbx.size
     have HN := bwt HN hbx
     clear hbx
     go_wp2_with fail
     refine tailL_mk HN.out ?_
     refine tree_one rfl ?_
     go_wp2_with fail
     refine (HCI.out _ (HB.out.trans (HN.out.mono HB.out.size))).mono ?_
     rintro e1 wx2 ⟨a3, c3, rfl, hbx, hin⟩
     have HIN := Lib.hid (show IntsR wx2 a3 n c from SlR.of_owns hin)
     clear hin
     have hzx := hbx.size
     have HN := bwt HN hbx
     have HBR := Lib.hid (HBR.out.below hbx)
     have HGR := Lib.hid (HGR.out.below hbx)
     clear hbx
     go_wp2_with fail
     refine tailL_mk HN.out ?_
     refine tree_one rfl ?_
     go_wp2_with fail
     refine (HWE.out a1 a2 a3 p1' p2' c3 _ HBR.out HGR.out HIN.out).mono ?_
     rintro e1 wx3 ⟨aw, nw, cw, rfl, hbx, hwe⟩
     have HWR := Lib.hid hwe
     clear hwe
     have hzx := hbx.size
     have HN := bwt HN hbx
     have HBR := Lib.hid (HBR.out.below hbx)
     have HGR := Lib.hid (HGR.out.below hbx)
     have HIN := Lib.hid (HIN.out.below hbx)
     clear hbx
     go_wp2_with fail
     refine tailL_mk HN.out ?_
     repeat (refine tree_head rfl ?_; (show wpQuiet _ _ _ _ (_ :: _) _; go_big_quiet_step (fail)); refine wpQuiet_nil ?_)
     refine tree_done ?_
     go_wp2_with fail
     go_meet
     case rel => exact ⟨aw, nw, cw, rfl, rfl, rfl, HWR, HN⟩
    case rest =>
     obtain ⟨w7, rfl⟩ : ∃ w', w' = wc := ⟨wc, rfl⟩
     obtain ⟨aw, nw, cw, rfl, rfl, rfl, HWR, HQ⟩ := hcut
     have hbq := HQ.out
     clear q0 q1 q2 u0 u1 u2 u3 u4 u5 p0 p1 l3 l4 l5
     have K3 := Lib.hid (K3.out.below hbq)
     have K4 := Lib.hid (K4.out.below hbq)
     have K5 := Lib.hid (K5.out.below hbq)
     have HB := bwt HB hbq
     have HAL := Lib.hid (IntsR.below HAL.out hbq)
     have HST := Lib.hid (IntsR.below HST.out hbq)
     clear hbq
     obtain ⟨q0, q1, q2, _⟩ := blkc3 K3.out
     obtain ⟨u0, u1, u2, u3, u4, u5, _⟩ := blkc6 K4.out
     obtain ⟨p0, p1, _⟩ := blkc2 K5.out
     have l3 := K3.out.lt
     have l4 := K4.out.lt
     have l5 := K5.out.lt
     clear HQ HWE HCP HCI
     go_wp2_with fail
     refine (HME.out _ HB.out).mono ?_
     rintro e8 w8 ⟨rfl, hb8⟩
     clear q0 q1 q2 u0 u1 u2 u3 u4 u5 p0 p1 l3 l4 l5
     have K3 := Lib.hid (K3.out.below hb8)
     have K4 := Lib.hid (K4.out.below hb8)
     have K5 := Lib.hid (K5.out.below hb8)
     have HB := bwt HB hb8
     have HAL := Lib.hid (IntsR.below HAL.out hb8)
     have HST := Lib.hid (IntsR.below HST.out hb8)
     have HWR := Lib.hid (PairsR.below HWR.out hb8)
     clear hb8
     obtain ⟨q0, q1, q2, _⟩ := blkc3 K3.out
     obtain ⟨u0, u1, u2, u3, u4, u5, _⟩ := blkc6 K4.out
     obtain ⟨p0, p1, _⟩ := blkc2 K5.out
     have l3 := K3.out.lt
     have l4 := K4.out.lt
     have l5 := K5.out.lt
     clear HME
     by_cases h1 : ME = 0
     ·subst h1
      obtain ⟨hm, hal⟩ := HL.out.pb rfl
      have HRR1 := Lib.hid (HRR.out hm)
      subst hal
      clear HRR
      go_wp2_with fail
      refine (HRR1.out _ HB.out).mono ?_
      rintro e9 w9 ⟨ar, nr, cr, rfl, hb9, hrr⟩
      have HRQ := Lib.hid hrr
      clear q0 q1 q2 u0 u1 u2 u3 u4 u5 p0 p1 l3 l4 l5
      have K3 := Lib.hid (K3.out.below hb9)
      have K4 := Lib.hid (K4.out.below hb9)
      have K5 := Lib.hid (K5.out.below hb9)
      have HB := bwt HB hb9
      have HAL := Lib.hid (IntsR.below HAL.out hb9)
      have HST := Lib.hid (IntsR.below HST.out hb9)
      have HWR := Lib.hid (PairsR.below HWR.out hb9)
      clear hb9
      obtain ⟨q0, q1, q2, _⟩ := blkc3 K3.out
      obtain ⟨u0, u1, u2, u3, u4, u5, _⟩ := blkc6 K4.out
      obtain ⟨p0, p1, _⟩ := blkc2 K5.out
      have l3 := K3.out.lt
      have l4 := K4.out.lt
      have l5 := K5.out.lt
      clear hrr HRR1
      go_wp2_with fail
      refine (ints_any _ _ _ _ _ _ _ _ _ HAL.out HRQ.out).mono ?_
      rintro e10 w10 ⟨rfl, m10, rfl⟩
      have hb10 : Below w9.heap.size w9 (w9.drewN m10) := by (first|exact bwg|go_size)
      rw [decide_eq_true (rfl : nats (reaS m) = nats (reaS m))]
      generalize w9.drewN m10 = w10 at *
      clear q0 q1 q2 u0 u1 u2 u3 u4 u5 p0 p1 l3 l4 l5
      have K3 := Lib.hid (K3.out.below hb10)
      have K4 := Lib.hid (K4.out.below hb10)
      have K5 := Lib.hid (K5.out.below hb10)
      have HB := bwt HB hb10
      have HAL := Lib.hid (IntsR.below HAL.out hb10)
      have HST := Lib.hid (IntsR.below HST.out hb10)
      have HWR := Lib.hid (PairsR.below HWR.out hb10)
      clear hb10
      obtain ⟨q0, q1, q2, _⟩ := blkc3 K3.out
      obtain ⟨u0, u1, u2, u3, u4, u5, _⟩ := blkc6 K4.out
      obtain ⟨p0, p1, _⟩ := blkc2 K5.out
      have l3 := K3.out.lt
      have l4 := K4.out.lt
      have l5 := K5.out.lt
      clear HRQ
      go_wp2_with fail
      refine (HLE.out _).mono ?_
      rintro e11 w11 ⟨rfl, hb11⟩
      clear q0 q1 q2 u0 u1 u2 u3 u4 u5 p0 p1 l3 l4 l5
      have K3 := Lib.hid (K3.out.below hb11)
      have K4 := Lib.hid (K4.out.below hb11)
      have K5 := Lib.hid (K5.out.below hb11)
      have HB := bwt HB hb11
      have HAL := Lib.hid (IntsR.below HAL.out hb11)
      have HST := Lib.hid (IntsR.below HST.out hb11)
      have HWR := Lib.hid (PairsR.below HWR.out hb11)
      clear hb11
      obtain ⟨q0, q1, q2, _⟩ := blkc3 K3.out
      obtain ⟨u0, u1, u2, u3, u4, u5, _⟩ := blkc6 K4.out
      obtain ⟨p0, p1, _⟩ := blkc2 K5.out
      have l3 := K3.out.lt
      have l4 := K4.out.lt
      have l5 := K5.out.lt
      clear HLE
      by_cases h2 : LE = 0
      ·subst h2
       obtain ⟨hl, hop, hrx, hsv⟩ := HL.out.pd rfl rfl
       have HRU1 := Lib.hid (HRU.out hm hl)
       have HRW1 := Lib.hid (HRW.out hop)
       rw [← hrx, ← hsv] at HRU1
       simp only at HRU1 HRW1
       clear HRU HRW hrx hsv hl hop hm
       go_wp2_with fail
       refine (HRU1.out _ HB.out).mono ?_
       rintro e12 w12 ⟨a12, n12, c12, rfl, hb12, hi12⟩
       have HI12 := Lib.hid hi12
       clear q0 q1 q2 u0 u1 u2 u3 u4 u5 p0 p1 l3 l4 l5
       have K3 := Lib.hid (K3.out.below hb12)
       have K4 := Lib.hid (K4.out.below hb12)
       have K5 := Lib.hid (K5.out.below hb12)
       have HB := bwt HB hb12
       have HAL := Lib.hid (IntsR.below HAL.out hb12)
       have HST := Lib.hid (IntsR.below HST.out hb12)
       have HWR := Lib.hid (PairsR.below HWR.out hb12)
       clear hb12
       obtain ⟨q0, q1, q2, _⟩ := blkc3 K3.out
       obtain ⟨u0, u1, u2, u3, u4, u5, _⟩ := blkc6 K4.out
       obtain ⟨p0, p1, _⟩ := blkc2 K5.out
       have l3 := K3.out.lt
       have l4 := K4.out.lt
       have l5 := K5.out.lt
       clear hi12 HRU1
       go_wp2_with fail
       refine (HRW1.out _ HB.out).mono ?_
       rintro e13 w13 ⟨a13, n13, c13, rfl, hb13, hi13⟩
       have HI13 := Lib.hid hi13
       have HI12 := Lib.hid (IntsR.below HI12.out hb13)
       clear q0 q1 q2 u0 u1 u2 u3 u4 u5 p0 p1 l3 l4 l5
       have K3 := Lib.hid (K3.out.below hb13)
       have K4 := Lib.hid (K4.out.below hb13)
       have K5 := Lib.hid (K5.out.below hb13)
       have HB := bwt HB hb13
       have HAL := Lib.hid (IntsR.below HAL.out hb13)
       have HST := Lib.hid (IntsR.below HST.out hb13)
       have HWR := Lib.hid (PairsR.below HWR.out hb13)
       clear hb13
       obtain ⟨q0, q1, q2, _⟩ := blkc3 K3.out
       obtain ⟨u0, u1, u2, u3, u4, u5, _⟩ := blkc6 K4.out
       obtain ⟨p0, p1, _⟩ := blkc2 K5.out
       have l3 := K3.out.lt
       have l4 := K4.out.lt
       have l5 := K5.out.lt
       clear hi13 HRW1
       have x1 : (RI != RI) = false := by simp
       have x2 : (RF != RF) = false := by simp
       have x3 : (WI != WI) = false := by simp
       have x4 : (WF != WF) = false := by simp
       go_wp2_with fail
       refine (ints_any _ _ _ _ _ _ _ _ _ HST.out HI12.out).mono ?_
       rintro e14 w14 ⟨rfl, m14, rfl⟩
       have hb14 : Below w13.heap.size w13 (w13.drewN m14) := by (first|exact bwg|go_size)
       rw [decide_eq_true (rfl : nats SV = nats SV)]
       have HI13 := Lib.hid (PairsR.below HI13.out hb14)
       generalize w13.drewN m14 = w14 at *
       clear q0 q1 q2 u0 u1 u2 u3 u4 u5 p0 p1 l3 l4 l5
       have K3 := Lib.hid (K3.out.below hb14)
       have K4 := Lib.hid (K4.out.below hb14)
       have K5 := Lib.hid (K5.out.below hb14)
       have HB := bwt HB hb14
       have HAL := Lib.hid (IntsR.below HAL.out hb14)
       have HST := Lib.hid (IntsR.below HST.out hb14)
       have HWR := Lib.hid (PairsR.below HWR.out hb14)
       clear hb14
       obtain ⟨q0, q1, q2, _⟩ := blkc3 K3.out
       obtain ⟨u0, u1, u2, u3, u4, u5, _⟩ := blkc6 K4.out
       obtain ⟨p0, p1, _⟩ := blkc2 K5.out
       have l3 := K3.out.lt
       have l4 := K4.out.lt
       have l5 := K5.out.lt
       clear HI12
       go_wp2_with fail
       refine (fracs_any WV WV aw a13 nw cw n13 c13 _ HWR.out HI13.out).mono ?_
       rintro e15 w15 ⟨rfl, m15, rfl⟩
       go_wp2
       go_ret
       exact ⟨ret_bool (by simp), by have := HB.out; (first|exact bwg|go_size)⟩
      ·obtain ⟨rfl, rfl, hrx, hwx⟩ := HL.out.pc rfl h2
       injection hrx with hr1 hr2
       injection hwx with hw1 hw2
       obtain rfl : ns = 0 := by have h := HST.out.1; simp [icells, nats] at h; omega
       obtain rfl : nw = 0 := by have h := HWR.out.1; simp [pcells] at h; omega
       subst hr1 hr2 hw1 hw2
       have e2 := bne_iff_ne.2 h2
       clear HRU HRW h2
       go_wp2
       go_ret
       exact ⟨ret_bool (by simp), HB.out⟩
     ·obtain ⟨rfl, rfl, rfl, hrx, hwx⟩ := HL.out.pa h1
      injection hrx with hr1 hr2
      injection hwx with hw1 hw2
      obtain rfl : na = 0 := by have h := HAL.out.1; simp [icells, nats] at h; omega
      obtain rfl : ns = 0 := by have h := HST.out.1; simp [icells, nats] at h; omega
      obtain rfl : nw = 0 := by have h := HWR.out.1; simp [pcells] at h; omega
      subst hr1 hr2 hw1 hw2
      have e1 := bne_iff_ne.2 h1
      clear HRU HRW HRR h1
      go_wp2
      go_ret
      exact ⟨ret_bool (by simp), HB.out⟩
  ·have i42 : 42 < (n : Int) := by omega
   go_wp2
   go_ret
   exact ⟨rfl, HB.out⟩
 ·have e81 : (decide (nb ≤ 8) && decide (ng ≤ 32)) = false := by
    rw [Bool.eq_false_iff]
    intro h
    rw [Bool.and_eq_true, decide_eq_true_eq, decide_eq_true_eq] at h
    exact hfew h
  rw [e81]
  clear e81 hfew
  go_wp2
  go_ret
  exact ⟨rfl, HB.out⟩
end Go.Proofs.YtppkckbnjnenfaaGreat
