import Derived.Test.YtdjinmieogpgcaaGreatProg
import Derived.ChangeSlices
import Derived.Lib.SmallJoins
import Derived.ProofKit
import Derived.OpenShut
import Derived.ChangeOld
import Derived.Below
import Derived.Test.YtdjinmieogpgcaaGreatMTSet
import Derived.Test.YtdjinmieogpgcaaGreatRInv
/- The law TapProofs: failures and invariants are as specified. -/
namespace Go.Proofs.YtdjinmieogpgcaaGreat
open Go.RowKit Go.Shelf
set_option linter.unusedVariables false
set_option linter.unusedSimpArgs false
structure PrfL (m : Mac) (l : Lim) (L : List Int) (E FE IE : Int) (FL IL : List Nat) (CX : Int × Int) : Prop where
 pa : E ≠ 0 → FE = E ∧ IE = E ∧ CX = (0, E) ∧ FL = [] ∧ IL = []
 pb : E = 0 → MacV m ∧ limE l = 0 ∧ CX = invX m l L
 pc : E = 0 → (faiV m l).isSome = true → FE = 0 ∧ FL = (faiV m l).getD [] ∧ IE = 12 ∧ IL = []
 pd : E = 0 → (faiV m l).isSome = false → FE = 12 ∧ FL = [] ∧ IE = 0 ∧ IL = reaS m
theorem prfLaw (m : Mac) (l : Lim) (L : List Int) : PrfL m l L (opnE m l) (failE m l) (invE m l) (failL m l) (invL m l) (cinX m l L) := by
 refine ⟨fun h => ?_, fun h => ?_, fun h h2 => ?_, fun h h2 => ?_⟩
 ·have h1 : invE m l = opnE m l := by unfold invE; rw [if_pos h]
  refine ⟨by unfold failE; rw [if_pos h], h1, by unfold cinX; rw [if_pos h], by unfold failL; rw [if_pos h], by unfold invL; rw [if_pos (by rw [h1]; exact h)]⟩
 ·have h1 := opnE_zero h
  refine ⟨h1.1, h1.2, by unfold cinX; rw [if_neg (by rw [h]; exact fun h => h rfl)]⟩
 ·have h1 : invE m l = 12 := by unfold invE; rw [if_neg (by rw [h]; exact fun h => h rfl), h2]; rfl
  refine ⟨by unfold failE; rw [if_neg (by rw [h]; exact fun h => h rfl), h2]; rfl, by unfold failL; rw [if_neg (by rw [h]; exact fun h => h rfl)], h1, by unfold invL; rw [if_pos (by rw [h1]; decide)]⟩
 ·have h1 : invE m l = 0 := by unfold invE; rw [if_neg (by rw [h]; exact fun h => h rfl), h2]; rfl
  have h3 : faiV m l = none := by cases hf : faiV m l with
   | none => rfl
   | some r => rw [hf] at h2; simp at h2
  refine ⟨by unfold failE; rw [if_neg (by rw [h]; exact fun h => h rfl), h2]; rfl, by unfold failL; rw [if_neg (by rw [h]; exact fun h => h rfl), h3]; rfl, h1, by unfold invL; rw [if_neg (by rw [h1]; decide)]⟩
set_option maxHeartbeats 4000000 in
set_option maxRecDepth 100000 in
theorem prf_law (m : Mac) (l : Lim) (L : List Int) (ac ab ag : Option Addr) (n cc nb cb ng cg : Nat) (w : World) (hb : BrR w ab nb m.br) (hg : GrR w ag ng m.gs) (hc : IntsR w ac n L) :
    Calls Tryz.prog 4 #[.agg #[.slice ab nb cb, .int .i64 m.st, .slice ag ng cg], .agg #[.int .i64 l.volt, .int .i64 l.lo, .int .i64 l.hi, .int .i64 l.circ, .int .i64 l.brk, .int .i64 l.ret], .slice ac n cc] w fun e' w' => e' = .returned (.bool true) ∧ Below w.heap.size w w' := by
 have HFW := Lib.hid (fun (W : World) => few_any m.st ab ag nb cb ng cg W hb.small hg.small)
 have HCP0 := Lib.hid (fun (h1 : nb ≤ 8) (h2 : ng ≤ 32) (W : World) (hbw : Below w.heap.size w W) => copyM_any m ab ag nb cb ng cg W (hb.below hbw) (hg.below hbw) (by omega) (by omega))
 have HCI0 := Lib.hid (fun (h1 : (n : Int) ≤ 66) (W : World) (hbw : Below w.heap.size w W) => copyInts_any L ac n cc W (hc.below hbw) (by omega))
 have HFA := Lib.hid (fun (a1 a2 : Option Addr) (c1 c2 : Nat) (W : World) (h1 : BrR W a1 nb m.br) (h2 : GrR W a2 ng m.gs) => failureOf_any m l a1 a2 nb c1 ng c2 W h1 h2)
 have HIV := Lib.hid (fun (a1 a2 : Option Addr) (c1 c2 : Nat) (W : World) (h1 : BrR W a1 nb m.br) (h2 : GrR W a2 ng m.gs) => invariantOf_any m l a1 a2 nb c1 ng c2 W h1 h2)
 have HCK0 := Lib.hid (fun (h1 : (n : Int) ≤ 66) (a1 a2 a3 : Option Addr) (c1 c2 c3 : Nat) (W : World) (h1' : BrR W a1 nb m.br) (h2 : GrR W a2 ng m.gs) (h3 : IntsR W a3 n L) => checkInvariant_any m l L a3 a1 a2 n c3 nb c1 ng c2 W h1' h2 h3 (by omega))
 have HBE := Lib.hid (fun (W : World) (hbw : Below w.heap.size w W) => show Calls Tryz.prog 19 #[.agg #[.slice ab nb cb, .int .i64 m.st, .slice ag ng cg], .agg #[.int .i64 l.volt, .int .i64 l.lo, .int .i64 l.hi, .int .i64 l.circ, .int .i64 l.brk, .int .i64 l.ret]] W (fun e' w' => e' = .returned (.int .i64 (opnE m l)) ∧ Below W.heap.size W w') from bothErr_any m l ab ag nb cb ng cg W (hb.below hbw) (hg.below hbw))
 have HRC := Lib.hid (fun (hm : MacV m) (hl : limE l = 0) (W : World) (hbw : Below w.heap.size w W) => rCheckInvariant_any m l L ac ab ag n cc nb cb ng cg W hm hl (hb.below hbw) (hg.below hbw) (hc.below hbw))
 have HRF := Lib.hid (fun (hm : MacV m) (hl : limE l = 0) (W : World) (hbw : Below w.heap.size w W) => rFailure_any m l ab ag nb cb ng cg W hm hl (hb.below hbw) (hg.below hbw))
 have HRR := Lib.hid (fun (hm : MacV m) (W : World) (hbw : Below w.heap.size w W) => rReachable_any m ab ag nb cb ng cg W hm (hb.below hbw) (hg.below hbw))
 have HL := Lib.hid (prfLaw m l L)
 have hcs := hc.small
 generalize opnE m l = E at *
 generalize failE m l = FE at *
 generalize invE m l = IE at *
 generalize failL m l = FL at *
 generalize invL m l = IL at *
 generalize cinX m l L = CX at *
 obtain ⟨CI, CF⟩ := CX
 obtain ⟨st, hst⟩ : ∃ x, x = m.st := ⟨_, rfl⟩
 rw [← hst] at HFW HCP0 HFA HIV HCK0 HBE HRC HRF HRR ⊢
 clear hb hg hc hst
 obtain ⟨vo, lo, hi', ci, br, re⟩ := l
 simp only at HFA HIV HCK0 HBE HRC HRF ⊢
 generalize hLM : (⟨vo, lo, hi', ci, br, re⟩ : Lim) = LM at *
 clear hLM
 go_enter Tryz.func4, Tryz.ntmps4
 go_upto_region 1 with (fail)
 obtain ⟨w1, hW⟩ : ∃ w1, w1 = (w.alloc (Obj.cells #[.slice ab nb cb, .int .i64 st, .slice ag ng cg] 45)).alloc (Obj.cells #[.int .i64 vo, .int .i64 lo, .int .i64 hi', .int .i64 ci, .int .i64 br, .int .i64 re] 47) := ⟨_, rfl⟩
 obtain ⟨hb1, k3, k4⟩ := alA2 w (Obj.cells #[.slice ab nb cb, .int .i64 st, .slice ag ng cg] 45) (Obj.cells #[.int .i64 vo, .int .i64 lo, .int .i64 hi', .int .i64 ci, .int .i64 br, .int .i64 re] 47)
 rw [← hW]
 rw [← hW] at hb1 k3 k4
 obtain ⟨X3, hX3⟩ : ∃ X, X = w.heap.size := ⟨_, rfl⟩
 obtain ⟨X4, hX4⟩ : ∃ X, X = w.heap.size + 1 := ⟨_, rfl⟩
 rw [← hX4] at k4
 have k3 : BlkR w1 X3 (.cells #[.slice ab nb cb, .int .i64 st, .slice ag ng cg] 45) := by rw [hX3]; exact k3
 simp only [← hX4]
 simp only [← hX3]
 clear hW hX3 hX4
 go_wp2_with fail
 refine (awake_any w1).mono ?_
 rintro e2 w2 ⟨rfl, hb2⟩
 have K3 := Lib.hid (k3.below hb2)
 have K4 := Lib.hid (k4.below hb2)
 have HB := Lib.hid (hb1.trans (hb2.mono hb1.size))
 clear hb1 hb2 k3 k4
 obtain ⟨q0, q1, q2, _⟩ := blkc3 K3.out
 obtain ⟨u0, u1, u2, u3, u4, u5, _⟩ := blkc6 K4.out
 have l3 := K3.out.lt
 have l4 := K4.out.lt
 go_wp2_with fail
 refine (HFW.out _).mono ?_
 rintro e3 w3 ⟨rfl, hb3⟩
 clear q0 q1 q2 u0 u1 u2 u3 u4 u5 l3 l4
 have K3 := Lib.hid (K3.out.below hb3)
 have K4 := Lib.hid (K4.out.below hb3)
 have HB := bwt HB hb3
 obtain ⟨q0, q1, q2, _⟩ := blkc3 K3.out
 obtain ⟨u0, u1, u2, u3, u4, u5, _⟩ := blkc6 K4.out
 have l3 := K3.out.lt
 have l4 := K4.out.lt
 clear hb3 HFW
 by_cases hfew : nb ≤ 8 ∧ ng ≤ 32
 rotate_left
 ·have e81 : (decide (nb ≤ 8) && decide (ng ≤ 32)) = false := by
    rw [Bool.eq_false_iff]
    intro h
    rw [Bool.and_eq_true, decide_eq_true_eq, decide_eq_true_eq] at h
    exact hfew h
  rw [e81]
  clear e81 hfew
  go_wp2
  go_ret
  exact ⟨rfl, HB.out⟩
 obtain ⟨h8, h32⟩ := hfew
 have HCP := Lib.hid (HCP0.out h8 h32)
 have e81 : (decide (nb ≤ 8) && decide (ng ≤ 32)) = true := by rw [decide_eq_true h8, decide_eq_true h32]; rfl
 rw [e81]
 clear e81 HCP0 h8 h32
 by_cases h66 : (n : Int) ≤ 66
 rotate_left
 ·have i66 : 66 < (n : Int) := by omega
  go_wp2
  go_ret
  exact ⟨rfl, HB.out⟩
 have i66 : ¬ 66 < (n : Int) := by omega
 have HCI := Lib.hid (HCI0.out h66)
 have HCK := Lib.hid (HCK0.out h66)
 clear HCI0 HCK0
 go_upto_region 5 with (fail)
 go_cut [7, 8] from 28 to 35 (fun v7 v8 wx => ∃ (aa : Option Addr) (na ca : Nat), v7 = .slice aa na ca ∧ v8 = .int .i64 FE ∧ Hid (IntsR wx aa na (nats FL)) ∧ Hid (Below w3.heap.size w3 wx))
 case first =>
  have HN := Lib.hid (Below.refl w3.heap.size w3).drew
  refine wp_region_laterT (B := w3.heap.size) (.head 0 (.head 2 (.one 1 (.one 3 (.head 4 (.head 5 (.head 6 (.head 7 (.head 8 .done))))))))) (by kernel_rfl) (by kernel_rfl) ?_
  repeat (refine tree_head rfl ?_; (show wpQuiet _ _ _ _ (_ :: _) _; go_big_quiet_step (fail)); refine wpQuiet_nil ?_)
  refine tree_one rfl ?_
  go_wp2_with fail
  refine (HCP.out _ (HB.out.trans (HN.out.mono HB.out.size))).mono ?_
  rintro e1 wx1 ⟨a1, p1', a2, p2', rfl, hbx, hbr1, hgr1⟩
  have HBR := Lib.hid hbr1
  have HGR := Lib.hid hgr1
  clear hbr1 hgr1
  have hzx := hbx.size
  have HN := bwt HN hbx
  clear hbx
  go_wp2_with fail
  refine tailL_mk HN.out ?_
  refine tree_one rfl ?_
  go_wp2_with fail
  refine (HFA.out a1 a2 p1' p2' _ HBR.out HGR.out).mono ?_
  rintro e1 wx2 ⟨aa, na, ca, rfl, hbx, hall⟩
  have HFI := Lib.hid hall
  clear hall
  have hzx := hbx.size
  have HN := bwt HN hbx
  have HBR := Lib.hid (HBR.out.below hbx)
  have HGR := Lib.hid (HGR.out.below hbx)
  clear hbx
  go_wp2_with fail
  refine tailL_mk HN.out ?_
  repeat (refine tree_head rfl ?_; (show wpQuiet _ _ _ _ (_ :: _) _; go_big_quiet_step (fail)); refine wpQuiet_nil ?_)
  refine tree_done ?_
  go_wp2_with fail
  go_meet
  case rel => exact ⟨aa, na, ca, rfl, rfl, HFI, HN⟩
 case rest =>
  obtain ⟨w5, rfl⟩ : ∃ w', w' = wc := ⟨wc, rfl⟩
  obtain ⟨aa, na, ca, rfl, rfl, HFI, HQ⟩ := hcut
  have hbq := HQ.out
  clear q0 q1 q2 u0 u1 u2 u3 u4 u5 l3 l4
  have K3 := Lib.hid (K3.out.below hbq)
  have K4 := Lib.hid (K4.out.below hbq)
  have HB := bwt HB hbq
  obtain ⟨q0, q1, q2, _⟩ := blkc3 K3.out
  obtain ⟨u0, u1, u2, u3, u4, u5, _⟩ := blkc6 K4.out
  have l3 := K3.out.lt
  have l4 := K4.out.lt
  clear HQ HFA hbq
  go_upto_region 6 with (fail)
  go_cut [9, 10] from 35 to 42 (fun v7 v8 wx => ∃ (aa : Option Addr) (na ca : Nat), v7 = .slice aa na ca ∧ v8 = .int .i64 IE ∧ Hid (IntsR wx aa na (nats IL)) ∧ Hid (Below w5.heap.size w5 wx))
  case first =>
   have HN := Lib.hid (Below.refl w5.heap.size w5).drew
   refine wp_region_laterT (B := w5.heap.size) (.head 0 (.head 2 (.one 1 (.one 3 (.head 4 (.head 5 (.head 6 (.head 7 (.head 8 .done))))))))) (by kernel_rfl) (by kernel_rfl) ?_
   repeat (refine tree_head rfl ?_; (show wpQuiet _ _ _ _ (_ :: _) _; go_big_quiet_step (fail)); refine wpQuiet_nil ?_)
   refine tree_one rfl ?_
   go_wp2_with fail
   refine (HCP.out _ (HB.out.trans (HN.out.mono HB.out.size))).mono ?_
   rintro e1 wx1 ⟨a1, p1', a2, p2', rfl, hbx, hbr1, hgr1⟩
   have HBR := Lib.hid hbr1
   have HGR := Lib.hid hgr1
   clear hbr1 hgr1
   have hzx := hbx.size
   have HN := bwt HN hbx
   clear hbx
   go_wp2_with fail
   refine tailL_mk HN.out ?_
   refine tree_one rfl ?_
   go_wp2_with fail
   refine (HIV.out a1 a2 p1' p2' _ HBR.out HGR.out).mono ?_
   rintro e1 wx2 ⟨ai, ni, ci', rfl, hbx, hall⟩
   have HII := Lib.hid hall
   clear hall
   have hzx := hbx.size
   have HN := bwt HN hbx
   have HBR := Lib.hid (HBR.out.below hbx)
   have HGR := Lib.hid (HGR.out.below hbx)
   clear hbx
   go_wp2_with fail
   refine tailL_mk HN.out ?_
   repeat (refine tree_head rfl ?_; (show wpQuiet _ _ _ _ (_ :: _) _; go_big_quiet_step (fail)); refine wpQuiet_nil ?_)
   refine tree_done ?_
   go_wp2_with fail
   go_meet
   case rel => exact ⟨ai, ni, ci', rfl, rfl, HII, HN⟩
  case rest =>
   obtain ⟨w6, rfl⟩ : ∃ w', w' = wc := ⟨wc, rfl⟩
   obtain ⟨ai, ni, ci', rfl, rfl, HII, HQ⟩ := hcut
   have hbq := HQ.out
   clear q0 q1 q2 u0 u1 u2 u3 u4 u5 l3 l4
   have K3 := Lib.hid (K3.out.below hbq)
   have K4 := Lib.hid (K4.out.below hbq)
   have HB := bwt HB hbq
   obtain ⟨q0, q1, q2, _⟩ := blkc3 K3.out
   obtain ⟨u0, u1, u2, u3, u4, u5, _⟩ := blkc6 K4.out
   have l3 := K3.out.lt
   have l4 := K4.out.lt
   have HFI := Lib.hid (IntsR.below HFI.out hbq)
   clear hbq
   clear HQ HIV
   go_upto_region 7 with (fail)
   go_cut [11, 12] from 42 to 51 (fun v7 v8 wx => v7 = .int .i64 CI ∧ v8 = .int .i64 CF ∧ Hid (Below w6.heap.size w6 wx))
   case first =>
    have HN := Lib.hid (Below.refl w6.heap.size w6).drew
    refine wp_region_laterT (B := w6.heap.size) (.head 0 (.head 2 (.head 3 (.one 1 (.one 4 (.one 5 (.head 6 (.head 7 (.head 8 (.head 9 (.head 10 .done))))))))))) (by kernel_rfl) (by kernel_rfl) ?_
    repeat (refine tree_head rfl ?_; (show wpQuiet _ _ _ _ (_ :: _) _; go_big_quiet_step (fail)); refine wpQuiet_nil ?_)
    refine tree_one rfl ?_
    go_wp2_with fail
    refine (HCP.out _ (HB.out.trans (HN.out.mono HB.out.size))).mono ?_
    rintro e1 wx1 ⟨a1, p1', a2, p2', rfl, hbx, hbr1, hgr1⟩
    have HBR := Lib.hid hbr1
    have HGR := Lib.hid hgr1
    clear hbr1 hgr1
    have hzx := hbx.size
    have HN := bwt HN hbx
    clear hbx
    go_wp2_with fail
    refine tailL_mk HN.out ?_
    refine tree_one rfl ?_
    go_wp2_with fail
    refine (HCI.out _ (HB.out.trans (HN.out.mono HB.out.size))).mono ?_
    rintro e1 wx2 ⟨a3, c3, rfl, hbx, hin⟩
    have HIN := Lib.hid (show IntsR wx2 a3 n L from SlR.of_owns hin)
    clear hin
    have hzx := hbx.size
    have HN := bwt HN hbx
    have HBR := Lib.hid (HBR.out.below hbx)
    have HGR := Lib.hid (HGR.out.below hbx)
    clear hbx
    go_wp2_with fail
    refine tailL_mk HN.out ?_
    refine tree_one rfl ?_
    go_wp2_with fail
    refine (HCK.out a1 a2 a3 p1' p2' c3 _ HBR.out HGR.out HIN.out).mono ?_
    rintro e1 wx3 ⟨rfl, hbx⟩
    have hzx := hbx.size
    have HN := bwt HN hbx
    have HBR := Lib.hid (HBR.out.below hbx)
    have HGR := Lib.hid (HGR.out.below hbx)
    have HIN := Lib.hid (HIN.out.below hbx)
    clear hbx
    go_wp2_with fail
    refine tailL_mk HN.out ?_
    repeat (refine tree_head rfl ?_; (show wpQuiet _ _ _ _ (_ :: _) _; go_big_quiet_step (fail)); refine wpQuiet_nil ?_)
    refine tree_done ?_
    go_wp2_with fail
    go_meet
    case rel => exact ⟨rfl, rfl, HN⟩
   case rest =>
    obtain ⟨w7, rfl⟩ : ∃ w', w' = wc := ⟨wc, rfl⟩
    obtain ⟨rfl, rfl, HQ⟩ := hcut
    have hbq := HQ.out
    clear q0 q1 q2 u0 u1 u2 u3 u4 u5 l3 l4
    have K3 := Lib.hid (K3.out.below hbq)
    have K4 := Lib.hid (K4.out.below hbq)
    have HB := bwt HB hbq
    obtain ⟨q0, q1, q2, _⟩ := blkc3 K3.out
    obtain ⟨u0, u1, u2, u3, u4, u5, _⟩ := blkc6 K4.out
    have l3 := K3.out.lt
    have l4 := K4.out.lt
    have HFI := Lib.hid (IntsR.below HFI.out hbq)
    have HII := Lib.hid (IntsR.below HII.out hbq)
    clear hbq
    clear HQ HCK HCP HCI
    go_wp2_with fail
    refine (HBE.out _ HB.out).mono ?_
    rintro e8 w8 ⟨rfl, hb8⟩
    clear q0 q1 q2 u0 u1 u2 u3 u4 u5 l3 l4
    have K3 := Lib.hid (K3.out.below hb8)
    have K4 := Lib.hid (K4.out.below hb8)
    have HB := bwt HB hb8
    obtain ⟨q0, q1, q2, _⟩ := blkc3 K3.out
    obtain ⟨u0, u1, u2, u3, u4, u5, _⟩ := blkc6 K4.out
    have l3 := K3.out.lt
    have l4 := K4.out.lt
    have HFI := Lib.hid (IntsR.below HFI.out hb8)
    have HII := Lib.hid (IntsR.below HII.out hb8)
    clear hb8
    clear HBE
    by_cases h1 : E = 0
    rotate_left
    ·obtain ⟨hp1, hp2, hp3, hp4, hp5⟩ := HL.out.pa h1
     injection hp3 with hp6 hp7
     subst hp4 hp5
     obtain rfl : na = 0 := by have h := HFI.out.1; simp [icells, nats] at h; omega
     obtain rfl : ni = 0 := by have h := HII.out.1; simp [icells, nats] at h; omega
     subst hp6
     have e1 := bne_iff_ne.2 h1
     rw [hp1, hp2, hp7]
     clear HRC HRF HRR h1 hp1 hp2 hp7 HL
     go_wp2
     go_ret
     exact ⟨ret_bool (by simp), HB.out⟩
    subst h1
    obtain ⟨hm, hl, hcx⟩ := HL.out.pb rfl
    have HRC1 := Lib.hid (HRC.out hm hl)
    have HRF1 := Lib.hid (HRF.out hm hl)
    have HRR1 := Lib.hid (HRR.out hm)
    have HPC := Lib.hid (HL.out.pc rfl)
    have HPD := Lib.hid (HL.out.pd rfl)
    rw [← hcx] at HRC1
    simp only at HRC1
    clear HRC HRF HRR hm hl hcx HL
    go_wp2_with fail
    refine (HRC1.out _ HB.out).mono ?_
    rintro e9 w9 ⟨rfl, hb9⟩
    clear q0 q1 q2 u0 u1 u2 u3 u4 u5 l3 l4
    have K3 := Lib.hid (K3.out.below hb9)
    have K4 := Lib.hid (K4.out.below hb9)
    have HB := bwt HB hb9
    obtain ⟨q0, q1, q2, _⟩ := blkc3 K3.out
    obtain ⟨u0, u1, u2, u3, u4, u5, _⟩ := blkc6 K4.out
    have l3 := K3.out.lt
    have l4 := K4.out.lt
    have HFI := Lib.hid (IntsR.below HFI.out hb9)
    have HII := Lib.hid (IntsR.below HII.out hb9)
    clear hb9
    clear HRC1
    have x1 : (CF != CF) = false := by simp
    have x2 : (CI != CI) = false := by simp
    go_wp2_with fail
    refine (HRF1.out _ HB.out).mono ?_
    rintro e10 w10 ⟨aw, nw, cw, rfl, hb10, hfr⟩
    have HFR := Lib.hid hfr
    clear q0 q1 q2 u0 u1 u2 u3 u4 u5 l3 l4
    have K3 := Lib.hid (K3.out.below hb10)
    have K4 := Lib.hid (K4.out.below hb10)
    have HB := bwt HB hb10
    obtain ⟨q0, q1, q2, _⟩ := blkc3 K3.out
    obtain ⟨u0, u1, u2, u3, u4, u5, _⟩ := blkc6 K4.out
    have l3 := K3.out.lt
    have l4 := K4.out.lt
    have HFI := Lib.hid (IntsR.below HFI.out hb10)
    have HII := Lib.hid (IntsR.below HII.out hb10)
    clear hb10
    clear HRF1 hfr
    generalize faiV m LM = FV at *
    cases hsm : FV.isSome
    ·obtain ⟨rfl, rfl, rfl, rfl⟩ := HPD.out hsm
     obtain rfl : na = 0 := by have h := HFI.out.1; simp [icells, nats] at h; omega
     clear hsm HPC HPD HFR
     go_wp2_with fail
     refine (HRR1.out _ HB.out).mono ?_
     rintro e11 w11 ⟨ax, nx, cx, rfl, hb11, hrr⟩
     have HRQ := Lib.hid hrr
     have HII := Lib.hid (IntsR.below HII.out hb11)
     have HB := bwt HB hb11
     clear hrr HRR1 hb11
     go_wp2_with fail
     refine (ints_any _ _ _ _ _ _ _ _ _ HII.out HRQ.out).mono ?_
     rintro e12 w12 ⟨rfl, m12, rfl⟩
     rw [decide_eq_true (rfl : nats (reaS m) = nats (reaS m))]
     go_wp2
     go_ret
     exact ⟨ret_bool (by simp), by have := HB.out; (first|exact bwg|go_size)⟩
    ·obtain ⟨rfl, rfl, rfl, rfl⟩ := HPC.out hsm
     obtain rfl : ni = 0 := by have h := HII.out.1; simp [icells, nats] at h; omega
     clear hsm HPC HPD HRR1
     go_wp2_with fail
     refine (ints_any _ _ _ _ _ _ _ _ _ HFI.out HFR.out).mono ?_
     rintro e12 w12 ⟨rfl, m12, rfl⟩
     rw [decide_eq_true (rfl : nats (FV.getD []) = nats (FV.getD []))]
     go_wp2
     go_ret
     exact ⟨ret_bool (by simp), by have := HB.out; (first|exact bwg|go_size)⟩
/- What machines, limits, places, regulators and pairs that come in hold. Printed by gen_open6.py. -/
open Go.ChangeShapes Go.WideShapes Go.ChangeAt Go.RowKit
set_option maxRecDepth 100000
theorem pick_any {α : Type} {Q : Nat → α → Prop} : ∀ n, (∀ i, i < n → ∃ p, Q i p) → ∃ l : List α, l.length = n ∧ ∀ i p, l[i]? = some p → Q i p
 | 0, _ => ⟨[], rfl, fun i p h => by simp at h⟩
 | n + 1, h => by
  obtain ⟨l, hl, hq⟩ := pick_any n (fun i hi => h i (by omega))
  obtain ⟨p, hp⟩ := h n (by omega)
  refine ⟨l ++ [p], by simp [hl], fun i q hi => ?_⟩
  rcases Nat.lt_or_ge i n with h1 | h1
  ·rw [List.getElem?_append_left (by omega)] at hi
   exact hq i q hi
  ·have hlt := (List.getElem?_eq_some_iff.1 hi).1
   rw [List.length_append, List.length_singleton] at hlt
   obtain rfl : i = n := by omega
   rw [List.getElem?_append_right (by omega), hl, Nat.sub_self] at hi
   simp at hi
   subst hi; exact hp
section
variable {H : Type} {enc : TypeId × Value → H} {W : World} {base : Nat} {spare : Nat → Bool} {held : Bool}
theorem sub_field {t : TypeId} {fs : Array Field} {fuel : Nat} {cs : List Value} {x : DataW H × List MemPlace} (ht : Tryz.prog.underlying t = some (.struct fs)) (h : DataW.trod enc Tryz.prog W base spare held fuel t cs = some x) (i : Nat) (f : Field) (hf : fs[i]? = some f) :
    ∃ m y, DataW.trod enc Tryz.prog W base spare held m f.type ((cs.drop f.offset).take (Tryz.prog.cellsOf f.type)) = some y := by
 obtain ⟨xs, n, _, _, _, hl, he⟩ := DataW.trod_struct ht h
 have hi : i < xs.length := by rw [hl]; exact (Array.getElem?_eq_some_iff.1 hf).1
 exact ⟨n, xs[i], (he i f hf).trans (List.getElem?_eq_getElem hi)⟩
theorem leaf_int {fuel : Nat} {c : Value} {x : DataW H × List MemPlace} (h : DataW.trod enc Tryz.prog W base spare held fuel 3 [c] = some x) : ∃ z, c = .int .i64 z := by
 obtain ⟨m, e, _⟩ := DataW.trod_int Tryz.underlying3 h
 simp at e
 exact ⟨m, e⟩
theorem opened_recs {α : Type} {en : α → List Value} {k : Nat} {Φ : α → Prop} (hk : ∀ x, (en x).length = k) (hk0 : 0 < k) {ts te : TypeId} {fuel : Nat} {cs : List Value} {x : DataW H × List MemPlace} (hts : Tryz.prog.underlying ts = some (.slice te)) (hc : Tryz.prog.cellsOf te = k)
    (hel : ∀ m (c' : List Value) y, c'.length = k → DataW.trod enc Tryz.prog W base spare held m te c' = some y → ∃ p, c' = en p ∧ Φ p)
    (h : DataW.trod enc Tryz.prog W base spare held fuel ts cs = some x) : ∃ a n c l, cs = [.slice a n c] ∧ ER en k W a n l ∧ ∀ p ∈ l, Φ p := by
 rcases DataW.trod_slice hts h with ⟨rfl, _⟩ | ⟨a, len, cap, elems, rest, m, _, rfl, _, hb, hl, hm, hlen, hee, _, _⟩
 ·exact ⟨none, 0, 0, [], rfl, ER.nil _ _, fun p hp => by simp at hp⟩
 ·have each : ∀ i, i < len → ∃ p : α, Φ p ∧ ∀ j, j < k → W.cell? ((a.add (i * k)).add j) = (en p)[j]? := by
    intro i hi
    have h1 := hee i hi
    rw [hc, List.getElem?_eq_getElem (by omega), Option.bind_eq_some_iff] at h1
    obtain ⟨cs', hcs, hy⟩ := h1
    have hcl : cs'.length = k := (World.cells?_some hcs).2.1
    obtain ⟨p, rfl, hp⟩ := hel _ cs' _ hcl hy
    exact ⟨p, hp, fun j hj => (World.cells?_some hcs).2.2 j hj⟩
  obtain ⟨l, hll, hq⟩ := pick_any len each
  refine ⟨some a, len, cap, l, rfl, ⟨hll, by rw [ecells_len hk, hll], by unfold maxLen at *; omega, fun hn => ?_⟩, fun p hp => ?_⟩
  ·obtain ⟨b, off, spot⟩ := a
   obtain ⟨p0, hp0⟩ := get_of_lt hll hn
   have hp00 : (en p0)[0]? = some ((en p0)[0]'(by rw [hk]; exact hk0)) := List.getElem?_eq_getElem _
   have h0 := ((hq 0 p0 hp0).2 0 hk0).trans hp00
   have hs : spot = none := by simpa [Addr.add] using World.cell?_spot h0
   subst hs
   rw [Addr.add_lit, Addr.add_lit] at h0
   refine ⟨b, off, rfl, World.block_lt_of_cell? W _ h0, fun j u hu => ?_⟩
   have hj := (List.getElem?_eq_some_iff.1 hu).1
   rw [ecells_len hk] at hj
   have hdm : j = j / k * k + j % k := by rw [Nat.mul_comm]; exact (Nat.div_add_mod j k).symm
   have hjk : j / k < len := by rw [← hll]; exact Nat.div_lt_of_lt_mul (by rw [Nat.mul_comm]; exact hj)
   have hm0 : j % k < k := Nat.mod_lt _ hk0
   obtain ⟨p1, hp1⟩ := get_of_lt hll hjk
   have h1 := (hq _ p1 hp1).2 (j % k) hm0
   have h2 := ecells_get hk hp1 (j % k) hm0
   rw [← hdm] at h2
   rw [h2.symm.trans hu] at h1
   rw [Addr.add_lit, Addr.add_lit] at h1
   rw [show off + j = off + j / k * k + j % k by omega]
   exact h1
  ·obtain ⟨i, hi⟩ := List.mem_iff_getElem?.1 hp
   exact (hq i p hi).1
theorem wf_bd9 {z : Int} (h : (Lit.int .i64 z).wf = true) : -9223372036854775808 ≤ z ∧ z ≤ 9223372036854775807 := by
 have h1 : IntKind.i64.min = -9223372036854775808 := by kernel_rfl
 have h2 : IntKind.i64.max = 9223372036854775807 := by kernel_rfl
 have h3 : (decide (IntKind.i64.min ≤ z) && decide (z ≤ IntKind.i64.max)) = true := h
 rw [h1, h2, Bool.and_eq_true, decide_eq_true_eq, decide_eq_true_eq] at h3
 exact h3
set_option maxRecDepth 100000 in
theorem leaf_intB {fuel : Nat} {c : Value} {x : DataW H × List MemPlace} (h : DataW.trod enc Tryz.prog W base spare held fuel 3 [c] = some x) : ∃ z, c = .int .i64 z ∧ -9223372036854775808 ≤ z ∧ z ≤ 9223372036854775807 := by
 obtain ⟨m, e, _, hw⟩ := DataW.trod_int Tryz.underlying3 h
 simp at e
 exact ⟨m, e, wf_bd9 hw⟩
theorem opened_slice {α : Type} {en : α → List Value} {k : Nat} {Φ : α → Prop} (hk : ∀ x, (en x).length = k) (hk0 : 0 < k) {ts te : TypeId} {r : Reach} {b0 : Nat} {v : Value} {d : DataW H} {p : List MemPlace} (hts : Tryz.prog.underlying ts = some (.slice te)) (hc : Tryz.prog.cellsOf te = k)
    (hel : ∀ m (c' : List Value) y, c'.length = k → DataW.trod enc Tryz.prog W base spare held m te c' = some y → ∃ p, c' = en p ∧ Φ p)
    (hv : Value.okWide Tryz.prog W r b0 ts v) (h : DataW.Trod enc Tryz.prog W base spare held ts v d p) : ∃ l a n c, v = .slice a n c ∧ ER en k W a n l ∧ ∀ p ∈ l, Φ p := by
 obtain ⟨a, n, c, rfl⟩ := okWide_slice hts hv
 obtain ⟨fuel, hf⟩ := h
 obtain ⟨a', n', c', l, hcs, hl, hp⟩ := opened_recs hk hk0 hts hc hel (show DataW.trod enc Tryz.prog W base spare held fuel ts [.slice a n c] = _ from hf)
 simp only [List.cons.injEq, Value.slice.injEq, and_true] at hcs
 obtain ⟨rfl, rfl, rfl⟩ := hcs
 exact ⟨l, a, n, c, rfl, hl, hp⟩
theorem icells_ecells (l : List Int) : ecells (fun p : Int => [Value.int .i64 p]) l = icells l := by
 unfold ecells icells
 induction l with
 | nil => rfl
 | cons x r ih => simp only [List.flatMap_cons, List.map_cons, ih]; rfl
set_option maxRecDepth 100000 in
theorem opened_list {r : Reach} {b0 : Nat} {v : Value} {d : DataW H} {p : List MemPlace} (hv : Value.okWide Tryz.prog W r b0 48 v) (h : DataW.Trod enc Tryz.prog W base spare held 48 v d p) :
    ∃ (l : List Int) (a : Option Addr) (n c : Nat), v = .slice a n c ∧ IntsR W a n l := by
 have hc : Tryz.prog.cellsOf 3 = 1 := by kernel_rfl
 obtain ⟨l, a, n, c, hv', hl, _⟩ := opened_slice (en := fun p : Int => [.int .i64 p]) (k := 1) (Φ := fun _ => True) (fun _ => rfl) (by omega) Tryz.underlying48 hc (fun m c' y hl hy => by
  match c', hl with
  | [a], _ =>
   obtain ⟨x, rfl⟩ := leaf_int hy
   exact ⟨x, rfl, trivial⟩) hv h
 refine ⟨l, a, n, c, hv', ?_⟩
 have := hl.2
 rwa [icells_ecells] at this
set_option maxRecDepth 100000 in
theorem leaf_boolB {fuel : Nat} {c : Value} {x : DataW H × List MemPlace} (h : DataW.trod enc Tryz.prog W base spare held fuel 4 [c] = some x) : ∃ z, c = .bool z := by
 obtain ⟨m, e, _⟩ := DataW.trod_bool Tryz.underlying4 h
 simp at e
 exact ⟨m, e⟩
def W64 (z : Int) : Prop := -9223372036854775808 ≤ z ∧ z ≤ 9223372036854775807
set_option maxRecDepth 100000 in
theorem leaf_brn {fuel : Nat} {c0 c1 : Value} {x : DataW H × List MemPlace} (h : DataW.trod enc Tryz.prog W base spare held fuel 126 [c0, c1] = some x) : ∃ (z0 : Int) (z1 : Int), [c0, c1] = [.int .i64 z0, .int .i64 z1] ∧ W64 z0 ∧ W64 z1 := by
 have n_int : Tryz.prog.cellsOf 3 = 1 := by kernel_rfl
 obtain ⟨m0, y0, e0⟩ := sub_field Tryz.underlying126 h 0 _ rfl
 have e0 : DataW.trod enc Tryz.prog W base spare held m0 3 (([c0, c1].drop 0).take (Tryz.prog.cellsOf 3)) = some y0 := e0
 rw [n_int] at e0
 obtain ⟨z0, r0, b0⟩ := leaf_intB (show DataW.trod enc Tryz.prog W base spare held m0 3 [c0] = _ from e0)
 obtain ⟨m1, y1, e1⟩ := sub_field Tryz.underlying126 h 1 _ rfl
 have e1 : DataW.trod enc Tryz.prog W base spare held m1 3 (([c0, c1].drop 1).take (Tryz.prog.cellsOf 3)) = some y1 := e1
 rw [n_int] at e1
 obtain ⟨z1, r1, b1⟩ := leaf_intB (show DataW.trod enc Tryz.prog W base spare held m1 3 [c1] = _ from e1)
 exact ⟨z0, z1, by rw [r0, r1], b0, b1⟩
set_option maxRecDepth 100000 in
theorem leaf_grd {fuel : Nat} {c0 c1 c2 c3 : Value} {x : DataW H × List MemPlace} (h : DataW.trod enc Tryz.prog W base spare held fuel 77 [c0, c1, c2, c3] = some x) : ∃ (z0 : Int) (z1 : Bool) (z2 : Int) (z3 : Int), [c0, c1, c2, c3] = [.int .i64 z0, .bool z1, .int .i64 z2, .int .i64 z3] ∧ W64 z0 ∧ W64 z2 ∧ W64 z3 := by
 have n_bool : Tryz.prog.cellsOf 4 = 1 := by kernel_rfl
 have n_int : Tryz.prog.cellsOf 3 = 1 := by kernel_rfl
 obtain ⟨m0, y0, e0⟩ := sub_field Tryz.underlying77 h 0 _ rfl
 have e0 : DataW.trod enc Tryz.prog W base spare held m0 3 (([c0, c1, c2, c3].drop 0).take (Tryz.prog.cellsOf 3)) = some y0 := e0
 rw [n_int] at e0
 obtain ⟨z0, r0, b0⟩ := leaf_intB (show DataW.trod enc Tryz.prog W base spare held m0 3 [c0] = _ from e0)
 obtain ⟨m1, y1, e1⟩ := sub_field Tryz.underlying77 h 1 _ rfl
 have e1 : DataW.trod enc Tryz.prog W base spare held m1 4 (([c0, c1, c2, c3].drop 1).take (Tryz.prog.cellsOf 4)) = some y1 := e1
 rw [n_bool] at e1
 obtain ⟨z1, r1⟩ := leaf_boolB (show DataW.trod enc Tryz.prog W base spare held m1 4 [c1] = _ from e1)
 obtain ⟨m2, y2, e2⟩ := sub_field Tryz.underlying77 h 2 _ rfl
 have e2 : DataW.trod enc Tryz.prog W base spare held m2 3 (([c0, c1, c2, c3].drop 2).take (Tryz.prog.cellsOf 3)) = some y2 := e2
 rw [n_int] at e2
 obtain ⟨z2, r2, b2⟩ := leaf_intB (show DataW.trod enc Tryz.prog W base spare held m2 3 [c2] = _ from e2)
 obtain ⟨m3, y3, e3⟩ := sub_field Tryz.underlying77 h 3 _ rfl
 have e3 : DataW.trod enc Tryz.prog W base spare held m3 3 (([c0, c1, c2, c3].drop 3).take (Tryz.prog.cellsOf 3)) = some y3 := e3
 rw [n_int] at e3
 obtain ⟨z3, r3, b3⟩ := leaf_intB (show DataW.trod enc Tryz.prog W base spare held m3 3 [c3] = _ from e3)
 exact ⟨z0, z1, z2, z3, by rw [r0, r1, r2, r3], b0, b2, b3⟩
set_option maxRecDepth 100000 in
theorem leaf_rng {fuel : Nat} {c0 c1 : Value} {x : DataW H × List MemPlace} (h : DataW.trod enc Tryz.prog W base spare held fuel 23 [c0, c1] = some x) : ∃ (z0 : Int) (z1 : Int), [c0, c1] = [.int .i64 z0, .int .i64 z1] ∧ W64 z0 ∧ W64 z1 := by
 have n_int : Tryz.prog.cellsOf 3 = 1 := by kernel_rfl
 obtain ⟨m0, y0, e0⟩ := sub_field Tryz.underlying23 h 0 _ rfl
 have e0 : DataW.trod enc Tryz.prog W base spare held m0 3 (([c0, c1].drop 0).take (Tryz.prog.cellsOf 3)) = some y0 := e0
 rw [n_int] at e0
 obtain ⟨z0, r0, b0⟩ := leaf_intB (show DataW.trod enc Tryz.prog W base spare held m0 3 [c0] = _ from e0)
 obtain ⟨m1, y1, e1⟩ := sub_field Tryz.underlying23 h 1 _ rfl
 have e1 : DataW.trod enc Tryz.prog W base spare held m1 3 (([c0, c1].drop 1).take (Tryz.prog.cellsOf 3)) = some y1 := e1
 rw [n_int] at e1
 obtain ⟨z1, r1, b1⟩ := leaf_intB (show DataW.trod enc Tryz.prog W base spare held m1 3 [c1] = _ from e1)
 exact ⟨z0, z1, by rw [r0, r1], b0, b1⟩
set_option maxRecDepth 100000 in
theorem leaf_lim {fuel : Nat} {c0 c1 c2 c3 c4 c5 : Value} {x : DataW H × List MemPlace} (h : DataW.trod enc Tryz.prog W base spare held fuel 47 [c0, c1, c2, c3, c4, c5] = some x) : ∃ (z0 : Int) (z1 : Int) (z2 : Int) (z3 : Int) (z4 : Int) (z5 : Int), [c0, c1, c2, c3, c4, c5] = [.int .i64 z0, .int .i64 z1, .int .i64 z2, .int .i64 z3, .int .i64 z4, .int .i64 z5] ∧ W64 z0 ∧ W64 z1 ∧ W64 z2 ∧ W64 z3 ∧ W64 z4 ∧ W64 z5 := by
 have n_int : Tryz.prog.cellsOf 3 = 1 := by kernel_rfl
 have n_rng : Tryz.prog.cellsOf 23 = 2 := by kernel_rfl
 obtain ⟨m0, y0, e0⟩ := sub_field Tryz.underlying47 h 0 _ rfl
 have e0 : DataW.trod enc Tryz.prog W base spare held m0 3 (([c0, c1, c2, c3, c4, c5].drop 0).take (Tryz.prog.cellsOf 3)) = some y0 := e0
 rw [n_int] at e0
 obtain ⟨z0, r0, b0⟩ := leaf_intB (show DataW.trod enc Tryz.prog W base spare held m0 3 [c0] = _ from e0)
 obtain ⟨m1, y1, e1⟩ := sub_field Tryz.underlying47 h 1 _ rfl
 have e1 : DataW.trod enc Tryz.prog W base spare held m1 23 (([c0, c1, c2, c3, c4, c5].drop 1).take (Tryz.prog.cellsOf 23)) = some y1 := e1
 rw [n_rng] at e1
 obtain ⟨z1, z2, q1, b1, b2⟩ := leaf_rng (show DataW.trod enc Tryz.prog W base spare held m1 23 [c1, c2] = _ from e1)
 simp only [List.cons.injEq, and_true] at q1
 obtain ⟨r1, r2⟩ := q1
 obtain ⟨m2, y2, e2⟩ := sub_field Tryz.underlying47 h 2 _ rfl
 have e2 : DataW.trod enc Tryz.prog W base spare held m2 3 (([c0, c1, c2, c3, c4, c5].drop 3).take (Tryz.prog.cellsOf 3)) = some y2 := e2
 rw [n_int] at e2
 obtain ⟨z3, r3, b3⟩ := leaf_intB (show DataW.trod enc Tryz.prog W base spare held m2 3 [c3] = _ from e2)
 obtain ⟨m3, y3, e3⟩ := sub_field Tryz.underlying47 h 3 _ rfl
 have e3 : DataW.trod enc Tryz.prog W base spare held m3 3 (([c0, c1, c2, c3, c4, c5].drop 4).take (Tryz.prog.cellsOf 3)) = some y3 := e3
 rw [n_int] at e3
 obtain ⟨z4, r4, b4⟩ := leaf_intB (show DataW.trod enc Tryz.prog W base spare held m3 3 [c4] = _ from e3)
 obtain ⟨m4, y4, e4⟩ := sub_field Tryz.underlying47 h 4 _ rfl
 have e4 : DataW.trod enc Tryz.prog W base spare held m4 3 (([c0, c1, c2, c3, c4, c5].drop 5).take (Tryz.prog.cellsOf 3)) = some y4 := e4
 rw [n_int] at e4
 obtain ⟨z5, r5, b5⟩ := leaf_intB (show DataW.trod enc Tryz.prog W base spare held m4 3 [c5] = _ from e4)
 exact ⟨z0, z1, z2, z3, z4, z5, by rw [r0, r1, r2, r3, r4, r5], b0, b1, b2, b3, b4, b5⟩
set_option maxRecDepth 100000 in
theorem opened_lim {r : Reach} {b0 : Nat} {v : Value} {d : DataW H} {p : List MemPlace} (hv : Value.okWide Tryz.prog W r b0 47 v) (h : DataW.Trod enc Tryz.prog W base spare held 47 v d p) :
    ∃ (z0 : Int) (z1 : Int) (z2 : Int) (z3 : Int) (z4 : Int) (z5 : Int), v = .agg #[.int .i64 z0, .int .i64 z1, .int .i64 z2, .int .i64 z3, .int .i64 z4, .int .i64 z5] ∧ W64 z0 ∧ W64 z1 ∧ W64 z2 ∧ W64 z3 ∧ W64 z4 ∧ W64 z5 := by
 have hk : Tryz.prog.cellsOf 47 = 6 := by kernel_rfl
 obtain ⟨cs, rfl, hsz⟩ := okWide_struct Tryz.underlying47 hv
 obtain ⟨c0, c1, c2, c3, c4, c5, rfl⟩ : ∃ c0 c1 c2 c3 c4 c5, cs = #[c0, c1, c2, c3, c4, c5] := by
  have hs := hsz.trans hk
  obtain ⟨l⟩ := cs
  match l, hs with
  | [c0, c1, c2, c3, c4, c5], _ => exact ⟨c0, c1, c2, c3, c4, c5, rfl⟩
 obtain ⟨fuel, hf⟩ := h
 obtain ⟨z0, z1, z2, z3, z4, z5, q, bb⟩ := leaf_lim (show DataW.trod enc Tryz.prog W base spare held fuel 47 [c0, c1, c2, c3, c4, c5] = _ from hf)
 simp only [List.cons.injEq, and_true] at q
 obtain ⟨rfl, rfl, rfl, rfl, rfl, rfl⟩ := q
 exact ⟨z0, z1, z2, z3, z4, z5, rfl, bb⟩
set_option maxRecDepth 100000 in
theorem leaf_brs {fuel : Nat} {c : Value} {x : DataW H × List MemPlace} (h : DataW.trod enc Tryz.prog W base spare held fuel 42 [c] = some x) : ∃ (l : List Brn) (a : Option Addr) (n cp : Nat), c = .slice a n cp ∧ BrR W a n l := by
 have hc : Tryz.prog.cellsOf 126 = 2 := by kernel_rfl
 obtain ⟨a, n, cp, l, hcs, hl, _⟩ := opened_recs (Φ := fun _ => True) eB_len (by omega) Tryz.underlying42 hc (fun m c' y hl hy => by
  match c', hl with
  | [a, b], _ =>
   obtain ⟨z0, z1, q, _, _⟩ := leaf_brn hy
   exact ⟨⟨z0, z1⟩, q, trivial⟩) h
 simp only [List.cons.injEq, and_true] at hcs
 exact ⟨l, a, n, cp, hcs, hl⟩
set_option maxRecDepth 100000 in
theorem leaf_grs {fuel : Nat} {c : Value} {x : DataW H × List MemPlace} (h : DataW.trod enc Tryz.prog W base spare held fuel 43 [c] = some x) : ∃ (l : List Grd) (a : Option Addr) (n cp : Nat), c = .slice a n cp ∧ GrR W a n l := by
 have hc : Tryz.prog.cellsOf 77 = 4 := by kernel_rfl
 obtain ⟨a, n, cp, l, hcs, hl, _⟩ := opened_recs (Φ := fun _ => True) eG_len (by omega) Tryz.underlying43 hc (fun m c' y hl hy => by
  match c', hl with
  | [a, b, c, d], _ =>
   obtain ⟨z0, z1, z2, z3, q, _, _, _⟩ := leaf_grd hy
   exact ⟨⟨z0, z1, z2, z3⟩, q, trivial⟩) h
 simp only [List.cons.injEq, and_true] at hcs
 exact ⟨l, a, n, cp, hcs, hl⟩
set_option maxRecDepth 100000 in
theorem opened_machine {r : Reach} {b0 : Nat} {v : Value} {d : DataW H} {p : List MemPlace} (hv : Value.okWide Tryz.prog W r b0 45 v) (h : DataW.Trod enc Tryz.prog W base spare held 45 v d p) :
    ∃ (m : Mac) (ab ag : Option Addr) (nb cb ng cg : Nat), v = .agg #[.slice ab nb cb, .int .i64 m.st, .slice ag ng cg] ∧ BrR W ab nb m.br ∧ GrR W ag ng m.gs := by
 have hk : Tryz.prog.cellsOf 45 = 3 := by kernel_rfl
 have h0 : Tryz.prog.cellsOf 42 = 1 := by kernel_rfl
 have h1 : Tryz.prog.cellsOf 3 = 1 := by kernel_rfl
 have h2 : Tryz.prog.cellsOf 43 = 1 := by kernel_rfl
 obtain ⟨cs, rfl, hsz⟩ := okWide_struct Tryz.underlying45 hv
 obtain ⟨a, b, c, rfl⟩ : ∃ a b c, cs = #[a, b, c] := by
  have hs := hsz.trans hk
  obtain ⟨l⟩ := cs
  match l, hs with
  | [a, b, c], _ => exact ⟨a, b, c, rfl⟩
 obtain ⟨fuel, hf⟩ := h
 have hf := show DataW.trod enc Tryz.prog W base spare held fuel 45 [a, b, c] = _ from hf
 obtain ⟨m0, y0, e0⟩ := sub_field Tryz.underlying45 hf 0 _ rfl
 obtain ⟨m1, y1, e1⟩ := sub_field Tryz.underlying45 hf 1 _ rfl
 obtain ⟨m2, y2, e2⟩ := sub_field Tryz.underlying45 hf 2 _ rfl
 have e0 : DataW.trod enc Tryz.prog W base spare held m0 42 (([a, b, c].drop 0).take (Tryz.prog.cellsOf 42)) = some y0 := e0
 have e1 : DataW.trod enc Tryz.prog W base spare held m1 3 (([a, b, c].drop 1).take (Tryz.prog.cellsOf 3)) = some y1 := e1
 have e2 : DataW.trod enc Tryz.prog W base spare held m2 43 (([a, b, c].drop 2).take (Tryz.prog.cellsOf 43)) = some y2 := e2
 rw [h0] at e0
 rw [h1] at e1
 rw [h2] at e2
 obtain ⟨l, ab, nb, cb, rfl, hb⟩ := leaf_brs (show DataW.trod enc Tryz.prog W base spare held m0 42 [a] = _ from e0)
 obtain ⟨z, rfl⟩ := leaf_int (show DataW.trod enc Tryz.prog W base spare held m1 3 [b] = _ from e1)
 obtain ⟨g, ag, ng, cg, rfl, hg⟩ := leaf_grs (show DataW.trod enc Tryz.prog W base spare held m2 43 [c] = _ from e2)
 exact ⟨⟨l, z, g⟩, ab, ag, nb, cb, ng, cg, rfl, hb, hg⟩
end
end Go.Proofs.YtdjinmieogpgcaaGreat
