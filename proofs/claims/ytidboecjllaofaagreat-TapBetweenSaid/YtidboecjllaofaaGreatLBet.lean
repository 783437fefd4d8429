import Derived.Test.YtidboecjllaofaaGreatLBetP
/- The law TapBetween: every load between; the walk. -/
namespace Go.Proofs.YtidboecjllaofaaGreat
open Go.RowKit Go.Shelf
set_option linter.unusedVariables false
set_option linter.unusedSimpArgs false
attribute [local go_sem] Oper.semAt_some
set_option maxHeartbeats 4000000 in
set_option maxRecDepth 100000 in
theorem bet_law (m : Mac) (l : Lim) (x0 x1 x2 : Int) (ab ag : Option Addr) (nb cb ng cg : Nat) (w : World) (hb : BrR w ab nb m.br) (hg : GrR w ag ng m.gs) (hx2 : -9223372036854775808 ≤ x2 ∧ x2 ≤ 9223372036854775807) :
    Calls Tryz.prog 9 #[.agg #[.slice ab nb cb, .int .i64 m.st, .slice ag ng cg], .agg #[.int .i64 l.volt, .int .i64 l.lo, .int .i64 l.hi, .int .i64 l.circ, .int .i64 l.brk, .int .i64 l.ret], .agg #[.int .i64 x0, .int .i64 x1, .int .i64 x2]] w fun e' w' => e' = .returned (.bool true) ∧ Below w.heap.size w w' := by
 have hlen := hb.len
 have HFW := Lib.hid (fun (W : World) => few_any m.st ab ag nb cb ng cg W hb.small hg.small)
 have HCP0 := Lib.hid (fun (h1 : nb ≤ 8) (h2 : ng ≤ 32) (W : World) (hbw : Below w.heap.size w W) => copyM_any m ab ag nb cb ng cg W (hb.below hbw) (hg.below hbw) (by omega) (by omega))
 have HCM0 := Lib.hid (fun (h8 : nb ≤ 8) (a1 a2 : Option Addr) (c1 c2 : Nat) (W : World) (h1 : BrR W a1 nb m.br) (h2 : GrR W a2 ng m.gs) => checkMove_any m l x0 x1 a1 a2 nb c1 ng c2 W h1 h2 h8)
 have HCW0 := Lib.hid (fun (h8 : nb ≤ 8) (a1 a2 : Option Addr) (c1 c2 : Nat) (W : World) (h1 : BrR W a1 nb m.br) (h2 : GrR W a2 ng m.gs) => checkMove_any m ⟨l.volt, l.lo, l.hi, 1000, min 1000 (l.brk + 1), 1000⟩ x0 x1 a1 a2 nb c1 ng c2 W h1 h2 h8)
 have HCS0 := Lib.hid (fun (h8 : nb ≤ 8) (s : Int) (a1 a2 : Option Addr) (c1 c2 : Nat) (W : World) (h1 : BrR W a1 nb m.br) (h2 : GrR W a2 ng m.gs) => checkState_any m l s a1 a2 nb c1 ng c2 W h1 h2 h8)
 have HBA0 := Lib.hid (fun (h8 : nb ≤ 8) (y : Int) (a1 a2 : Option Addr) (c1 c2 : Nat) (W : World) (h1 : BrR W a1 nb m.br) (h2 : GrR W a2 ng m.gs) => breakAt_any m l x0 x1 y a1 a2 nb c1 ng c2 W h1 h2 h8)
 have HBE := Lib.hid (fun (W : World) (hbw : Below w.heap.size w W) => show Calls Tryz.prog 22 #[.agg #[.slice ab nb cb, .int .i64 m.st, .slice ag ng cg], .agg #[.int .i64 l.volt, .int .i64 l.lo, .int .i64 l.hi, .int .i64 l.circ, .int .i64 l.brk, .int .i64 l.ret]] W (fun e' w' => e' = .returned (.int .i64 (opnE m l)) ∧ Below W.heap.size W w') from bothErr_any m l ab ag nb cb ng cg W (hb.below hbw) (hg.below hbw))
 have HSE0 := Lib.hid (fun (h8 : nb ≤ 8) (W : World) => rStaE_any m.st nb cb ng cg ab ag x0 W h8)
 have HCO0 := Lib.hid (fun (h8 : nb ≤ 8) (W : World) => rConE_any m.st nb cb ng cg ab ag x1 W (by omega))
 have HX2 := Lib.hid hx2
 obtain ⟨OE, hOE⟩ : ∃ O, O = opnE m l := ⟨_, rfl⟩
 rw [← hOE] at HBE
 have HOE := Lib.hid hOE
 obtain ⟨SE, hSE⟩ : ∃ O, O = staE nb x0 := ⟨_, rfl⟩
 rw [← hSE] at HSE0
 have HSQ := Lib.hid (show SE = staE m.br.length x0 by rw [hSE, hlen])
 obtain ⟨CE, hCE⟩ : ∃ O, O = conE nb x1 := ⟨_, rfl⟩
 rw [← hCE] at HCO0
 have HCQ := Lib.hid (show CE = conE m.br.length x1 by rw [hCE, hlen])
 obtain ⟨G, hG⟩ : ∃ O, O = chmE m l x0 x1 := ⟨_, rfl⟩
 rw [← hG] at HCM0
 have HGQ := Lib.hid hG
 clear hOE hSE hCE hG hx2
 have HLN := Lib.hid hlen
 obtain ⟨st, hst⟩ : ∃ x, x = m.st := ⟨_, rfl⟩
 rw [← hst] at HFW HCP0 HBA0 HCS0 HCM0 HCW0 HBE HSE0 HCO0 ⊢
 clear hb hg hst hlen
 obtain ⟨vo, lo, hi', ci, br, re⟩ := l
 obtain ⟨mb, hmb⟩ : ∃ mb, mb = min 1000 (br + 1) := ⟨_, rfl⟩
 simp only [← hmb] at HCW0
 simp only at HBA0 HCS0 HCM0 HCW0 HBE ⊢
 have HMB := Lib.hid hmb
 clear hmb
 generalize hLM : (⟨vo, lo, hi', ci, br, re⟩ : Lim) = L at *
 have HLM := Lib.hid hLM
 clear hLM
 go_enter Tryz.func9, Tryz.ntmps9
 go_wp2_with fail
 obtain ⟨w1, hW⟩ : ∃ w1, w1 = (((w.alloc (Obj.cells #[.slice ab nb cb, .int .i64 st, .slice ag ng cg] 45)).alloc (Obj.cells #[.int .i64 vo, .int .i64 lo, .int .i64 hi', .int .i64 ci, .int .i64 br, .int .i64 re] 47)).alloc (Obj.cells #[.int .i64 x0, .int .i64 x1, .int .i64 x2] 49)) := ⟨_, rfl⟩
 obtain ⟨hb1, k3, k4, k5⟩ := alc3 w (Obj.cells #[.slice ab nb cb, .int .i64 st, .slice ag ng cg] 45) (Obj.cells #[.int .i64 vo, .int .i64 lo, .int .i64 hi', .int .i64 ci, .int .i64 br, .int .i64 re] 47) (Obj.cells #[.int .i64 x0, .int .i64 x1, .int .i64 x2] 49)
 rw [← hW]
 rw [← hW] at hb1 k3 k4 k5
 obtain ⟨X3, hX3⟩ : ∃ X, X = w.heap.size := ⟨_, rfl⟩
 obtain ⟨X4, hX4⟩ : ∃ X, X = w.heap.size + 1 := ⟨_, rfl⟩
 obtain ⟨X5, hX5⟩ : ∃ X, X = w.heap.size + 1 + 1 := ⟨_, rfl⟩
 rw [← hX5] at k5
 rw [← hX4] at k4
 have k3 : BlkR w1 X3 (.cells #[.slice ab nb cb, .int .i64 st, .slice ag ng cg] 45) := by rw [hX3]; exact k3
 simp only [← hX5]
 simp only [← hX4]
 simp only [← hX3]
 refine (awake_any w1).mono ?_
 rintro e2 w2 ⟨rfl, hb2⟩
 have K3 := Lib.hid (k3.below hb2)
 have K4 := Lib.hid (k4.below hb2)
 have K5 := Lib.hid (k5.below hb2)
 have HB := Lib.hid (hb1.trans (hb2.mono hb1.size))
 clear hW hX3 hX4 hX5 hb1 hb2 k3 k4 k5
 obtain ⟨q0, q1, q2, _⟩ := blkc3 K3.out
 obtain ⟨u0, u1, u2, u3, u4, u5, _⟩ := blkc6 K4.out
 obtain ⟨p0, p1, p2, _⟩ := blkc3 K5.out
 have l3 := K3.out.lt
 have l4 := K4.out.lt
 have l5 := K5.out.lt
 go_wp2_with fail
 refine (HFW.out _).mono ?_
 rintro e3 w3 ⟨rfl, hb3⟩
 have K3 := Lib.hid (K3.out.below hb3)
 have K4 := Lib.hid (K4.out.below hb3)
 have K5 := Lib.hid (K5.out.below hb3)
 have HB := Lib.hid (HB.out.trans (hb3.mono HB.out.size))
 clear q0 q1 q2 u0 u1 u2 u3 u4 u5 p0 p1 p2 l3 l4 l5
 clear hb3 HFW
 by_cases hfew : nb ≤ 8 ∧ ng ≤ 32
 ·obtain ⟨h8, h32⟩ := hfew
  have HCP := Lib.hid (HCP0.out h8 h32)
  have HBAq := Lib.hid (HBA0.out h8)
  have HCSq := Lib.hid (HCS0.out h8)
  have HCM := Lib.hid (HCM0.out h8)
  have HCWq := Lib.hid (HCW0.out h8)
  have HSE := Lib.hid (HSE0.out h8)
  have HCO := Lib.hid (HCO0.out h8)
  have e81 : (decide (nb ≤ 8) && decide (ng ≤ 32)) = true := by rw [decide_eq_true h8, decide_eq_true h32]; rfl
  rw [e81]
  clear e81 HCP0 HBA0 HCS0 HCM0 HCW0 HSE0 HCO0 h8 h32
  obtain ⟨q0, q1, q2, _⟩ := blkc3 K3.out
  obtain ⟨u0, u1, u2, u3, u4, u5, _⟩ := blkc6 K4.out
  obtain ⟨p0, p1, p2, _⟩ := blkc3 K5.out
  have l3 := K3.out.lt
  have l4 := K4.out.lt
  have l5 := K5.out.lt
  go_wp2_with fail
  refine (HBE.out _ HB.out).mono ?_
  rintro ex w4 ⟨rfl, hb4⟩
  clear q0 q1 q2 u0 u1 u2 u3 u4 u5 p0 p1 p2 l3 l4 l5
  have K3 := Lib.hid (K3.out.below hb4)
  have K4 := Lib.hid (K4.out.below hb4)
  have K5 := Lib.hid (K5.out.below hb4)
  have HB := Lib.hid (HB.out.trans (hb4.mono HB.out.size))
  clear hb4
  obtain ⟨q0, q1, q2, _⟩ := blkc3 K3.out
  obtain ⟨u0, u1, u2, u3, u4, u5, _⟩ := blkc6 K4.out
  obtain ⟨p0, p1, p2, _⟩ := blkc3 K5.out
  have l3 := K3.out.lt
  have l4 := K4.out.lt
  have l5 := K5.out.lt
  clear HBE
  by_cases hO : OE = 0
  ·subst hO
   go_wp2_with fail
   refine (HSE.out _).mono ?_
   rintro ex w5 ⟨rfl, hb5⟩
   clear q0 q1 q2 u0 u1 u2 u3 u4 u5 p0 p1 p2 l3 l4 l5
   have K3 := Lib.hid (K3.out.below hb5)
   have K4 := Lib.hid (K4.out.below hb5)
   have K5 := Lib.hid (K5.out.below hb5)
   have HB := Lib.hid (HB.out.trans (hb5.mono HB.out.size))
   clear hb5
   obtain ⟨q0, q1, q2, _⟩ := blkc3 K3.out
   obtain ⟨u0, u1, u2, u3, u4, u5, _⟩ := blkc6 K4.out
   obtain ⟨p0, p1, p2, _⟩ := blkc3 K5.out
   have l3 := K3.out.lt
   have l4 := K4.out.lt
   have l5 := K5.out.lt
   clear HSE
   by_cases hS : SE = 0
   ·subst hS
    go_wp2_with fail
    refine (HCO.out _).mono ?_
    rintro ex w6 ⟨rfl, hb6⟩
    clear q0 q1 q2 u0 u1 u2 u3 u4 u5 p0 p1 p2 l3 l4 l5
    have K3 := Lib.hid (K3.out.below hb6)
    have K4 := Lib.hid (K4.out.below hb6)
    have K5 := Lib.hid (K5.out.below hb6)
    have HB := Lib.hid (HB.out.trans (hb6.mono HB.out.size))
    clear hb6
    obtain ⟨q0, q1, q2, _⟩ := blkc3 K3.out
    obtain ⟨u0, u1, u2, u3, u4, u5, _⟩ := blkc6 K4.out
    obtain ⟨p0, p1, p2, _⟩ := blkc3 K5.out
    have l3 := K3.out.lt
    have l4 := K4.out.lt
    have l5 := K5.out.lt
    clear HCO
    by_cases hC : CE = 0
    ·subst hC
     go_wp2_with fail
     go_cut [44] from 36 to 43 (fun v9 wx => v9 = .bool (G != 0) ∧ Hid (Below w6.heap.size w6 wx))
     case first =>
      have HN := Lib.hid (Below.refl w6.heap.size w6).drew
      refine wp_region_laterT (B := w6.heap.size) (.head 0 (.head 2 (.head 3 (.head 4 (.head 5 (.head 6 (.one 1 (.one 7 (.head 8 .done))))))))) (by kernel_rfl) (by kernel_rfl) ?_
      repeat (refine tree_head rfl ?_; (show wpQuiet _ _ _ _ (_ :: _) _; go_big_quiet_step (fail)); refine wpQuiet_nil ?_)
      refine tree_one rfl ?_
      go_wp2_with fail
      refine (HCP.out _ (HB.out.trans (HN.out.mono HB.out.size))).mono ?_
      rintro e1 wx1 ⟨a1, p1', a2, p2', rfl, hbx, hbr1, hgr1⟩
      have HBR := Lib.hid hbr1
      have HGR := Lib.hid hgr1
      clear hbr1 hgr1
      have hzx := hbx.size
      have HN := Lib.hid (HN.out.trans (hbx.mono HN.out.size))
      clear hbx
      go_wp2_with fail
      refine tailL_mk HN.out ?_
      repeat (refine tree_head rfl ?_; (show wpQuiet _ _ _ _ (_ :: _) _; go_big_quiet_step (fail)); refine wpQuiet_nil ?_)
      refine tree_one rfl ?_
      go_wp2_with fail
      refine (HCM.out a1 a2 p1' p2' _ HBR.out HGR.out).mono ?_
      rintro e1 wx2 ⟨rfl, hbx⟩
      have hzx := hbx.size
      have HN := Lib.hid (HN.out.trans (hbx.mono HN.out.size))
      have HBR := Lib.hid (HBR.out.below hbx)
      have HGR := Lib.hid (HGR.out.below hbx)
      clear hbx
      go_wp2_with fail
      refine tailL_mk HN.out ?_
      repeat (refine tree_head rfl ?_; (show wpQuiet _ _ _ _ (_ :: _) _; go_big_quiet_step (fail)); refine wpQuiet_nil ?_)
      refine tree_done ?_
      go_wp2_with fail
      go_meet
      case rel => exact ⟨by rfl, HN⟩
     case rest =>
      obtain ⟨w7, rfl⟩ : ∃ w', w' = wc := ⟨wc, rfl⟩
      obtain ⟨rfl, HQ⟩ := hcut
      have hbq := HQ.out
      clear q0 q1 q2 u0 u1 u2 u3 u4 u5 p0 p1 p2 l3 l4 l5
      have K3 := Lib.hid (K3.out.below hbq)
      have K4 := Lib.hid (K4.out.below hbq)
      have K5 := Lib.hid (K5.out.below hbq)
      have HB := Lib.hid (HB.out.trans (hbq.mono HB.out.size))
      clear hbq
      obtain ⟨q0, q1, q2, _⟩ := blkc3 K3.out
      obtain ⟨u0, u1, u2, u3, u4, u5, _⟩ := blkc6 K4.out
      obtain ⟨p0, p1, p2, _⟩ := blkc3 K5.out
      have l3 := K3.out.lt
      have l4 := K4.out.lt
      have l5 := K5.out.lt
      clear HQ HCM
      by_cases hG : G = 0
      ·have e1 : (G != 0) = false := by simpa using hG
       subst hG
       obtain ⟨hm, hl⟩ := opnE_zero HOE.out.symm
       have hlz := limE_zero.1 hl
       have hs2 := staE_zero.1 HSQ.out.symm
       have hc2 := conE_zero.1 HCQ.out.symm
       obtain ⟨n, rfl⟩ : ∃ n : Nat, x0 = n := ⟨x0.toNat, by omega⟩
       obtain ⟨k, rfl⟩ : ∃ k : Nat, x1 = k := ⟨x1.toNat, by omega⟩
       have h6 := hm.n1
       have hn64 : n < 64 := by
        have h1 : ((2 ^ m.br.length : Nat) : Int) = (2 : Int) ^ m.br.length := by push_cast; rfl
        have h2 : 2 ^ m.br.length ≤ 2 ^ 6 := Nat.pow_le_pow_right (by omega) h6
        omega
       have hk6 : k < 6 := by omega
       obtain ⟨y, hy⟩ : ∃ y, y = L.lo + x2 % (L.hi - L.lo + 1) := ⟨_, rfl⟩
       have hy1 : L.lo ≤ y ∧ y ≤ L.hi := by
        have := Int.emod_nonneg x2 (b := L.hi - L.lo + 1) (by omega)
        have := Int.emod_lt_of_pos x2 (b := L.hi - L.lo + 1) (by omega)
        omega
       have hlaw := betLaw (x2 := y) HOE.out.symm HSQ.out.symm HCQ.out.symm hy1 HGQ.out.symm
       have hw : chmE m ⟨vo, lo, hi', 1000, mb, 1000⟩ (n : Int) (k : Int) = 0 := by
        have h := hlaw.wide
        rw [← HLM.out] at h
        rw [HMB.out]
        exact h
       have HCS := Lib.hid (HCSq.out ((trn n k : Nat) : Int))
       rw [hlaw.nx] at HCS
       have HCW := Lib.hid HCWq.out
       rw [hw] at HCW
       have HCH := Lib.hid (fun w' => changed_any n k w' hn64 hk6)
       have HIC := Lib.hid (fun w' => isClosed_any n k w' hn64 (by omega))
       have HCLO := Lib.hid (fun h => hlaw.cl h hy1.1 hy1.2)
       have HBA := Lib.hid (HBAq.out y)
       have hlv : L.lo = lo ∧ L.hi = hi' ∧ L.brk = br ∧ L.ret = re := by rw [← HLM.out]; exact ⟨rfl, rfl, rfl, rfl⟩
       rw [hlv.1, hlv.2.1] at hy
       have HY := Lib.hid hy
       have HLV := Lib.hid (And.intro hlv.2.2.1 hlv.2.2.2)
       have hlb : -1000 ≤ lo ∧ lo ≤ hi' ∧ hi' ≤ 1000 ∧ 0 ≤ br ∧ br ≤ 1000 ∧ 0 ≤ re ∧ re ≤ 1000 := by
        obtain ⟨e1, e2, e3, e4⟩ := hlv
        omega
       have HLB := Lib.hid hlb
       clear hm hl hlz hs2 hc2 h6 hn64 hk6 hy1 hlaw hw hlv hy hlb HCSq HCWq HBAq HOE HSQ HCQ HGQ
       go_wp2_with fail
       go_cut [54] from 45 to 53 (fun v9 wx => v9 = .bool false ∧ Hid (Below w7.heap.size w7 wx))
       case first =>
        have HN := Lib.hid (Below.refl w7.heap.size w7).drew
        refine wp_region_laterT (B := w7.heap.size) (.head 0 (.head 2 (.head 3 (.head 4 (.head 5 (.head 6 (.one 1 (.one 7 (.one 8 (.head 9 .done)))))))))) (by kernel_rfl) (by kernel_rfl) ?_
        repeat (refine tree_head rfl ?_; (show wpQuiet _ _ _ _ (_ :: _) _; go_big_quiet_step (fail)); refine wpQuiet_nil ?_)
        refine tree_one rfl ?_
        go_wp2_with fail
        refine (HCP.out _ (HB.out.trans (HN.out.mono HB.out.size))).mono ?_
        rintro e1 wx1 ⟨a1, p1', a2, p2', rfl, hbx, hbr1, hgr1⟩
        have HBR := Lib.hid hbr1
        have HGR := Lib.hid hgr1
        clear hbr1 hgr1
        have hzx := hbx.size
        have HN := Lib.hid (HN.out.trans (hbx.mono HN.out.size))
        clear hbx
        go_wp2_with fail
        refine tailL_mk HN.out ?_
        repeat (refine tree_head rfl ?_; (show wpQuiet _ _ _ _ (_ :: _) _; go_big_quiet_step (fail)); refine wpQuiet_nil ?_)
        refine tree_one rfl ?_
        go_wp2_with fail
        refine (HCH.out _).mono ?_
        rintro e1 w1' ⟨rfl, rfl⟩
        go_wp2_with fail
        refine tailL_mk HN.out ?_
        repeat (refine tree_head rfl ?_; (show wpQuiet _ _ _ _ (_ :: _) _; go_big_quiet_step (fail)); refine wpQuiet_nil ?_)
        refine tree_one rfl ?_
        go_wp2_with fail
        refine (HCS.out a1 a2 p1' p2' _ HBR.out HGR.out).mono ?_
        rintro e1 wx3 ⟨rfl, hbx⟩
        have hzx := hbx.size
        have HN := Lib.hid (HN.out.trans (hbx.mono HN.out.size))
        have HBR := Lib.hid (HBR.out.below hbx)
        have HGR := Lib.hid (HGR.out.below hbx)
        clear hbx
        go_wp2_with fail
        refine tailL_mk HN.out ?_
        repeat (refine tree_head rfl ?_; (show wpQuiet _ _ _ _ (_ :: _) _; go_big_quiet_step (fail)); refine wpQuiet_nil ?_)
        refine tree_done ?_
        go_wp2_with fail
        go_meet
        case rel => exact ⟨by rfl, HN⟩
       case rest =>
        obtain ⟨w8, rfl⟩ : ∃ w', w' = wc := ⟨wc, rfl⟩
        obtain ⟨rfl, HQ⟩ := hcut
        have hbq := HQ.out
        clear q0 q1 q2 u0 u1 u2 u3 u4 u5 p0 p1 p2 l3 l4 l5
        have K3 := Lib.hid (K3.out.below hbq)
        have K4 := Lib.hid (K4.out.below hbq)
        have K5 := Lib.hid (K5.out.below hbq)
        have HB := Lib.hid (HB.out.trans (hbq.mono HB.out.size))
        clear hbq
        obtain ⟨q0, q1, q2, _⟩ := blkc3 K3.out
        obtain ⟨u0, u1, u2, u3, u4, u5, _⟩ := blkc6 K4.out
        obtain ⟨p0, p1, p2, _⟩ := blkc3 K5.out
        have l3 := K3.out.lt
        have l4 := K4.out.lt
        have l5 := K5.out.lt
        clear HQ HCS HCH
        go_wp2_with fail
        obtain ⟨w9, hW⟩ : ∃ w9, w9 = w8.alloc (Obj.cells #[.int .i64 vo, .int .i64 lo, .int .i64 hi', .int .i64 ci, .int .i64 br, .int .i64 re] 47) := ⟨_, rfl⟩
        rw [← hW]
        have hb9 : Below w8.heap.size w8 w9 := by rw [hW]; (repeat' first|(with_reducible first|exact bw1|assumption|refine bw2 ?_ _|refine bw3 ?_ ?_ _|refine bw4 ?_|refine bw5 ?_ ?_ _|refine bw6 (by assumption) ?_ ?_|exact And.left (by assumption))|go_size)
        have k7 : BlkR w9 w8.heap.size (.cells #[.int .i64 vo, .int .i64 lo, .int .i64 hi', .int .i64 ci, .int .i64 br, .int .i64 re] 47) := by show w9.heap[w8.heap.size]? = _; rw [hW]; exact heap_alloc_new _ _
        obtain ⟨X7, hX7⟩ : ∃ X, X = w8.heap.size := ⟨_, rfl⟩
        have hx7 : w8.heap.size ≤ X7 := by omega
        rw [← hX7] at k7
        simp only [← hX7]
        have K7 := Lib.hid k7
        have HQ9 := Lib.hid hb9
        have hne : X4 ≠ X7 := by have := K4.out.lt; omega
        clear hW hX7 k7
        have J3 := K3
        have J4 := K4
        have J5 := K5
        have HB8 := HB
        clear q0 q1 q2 u0 u1 u2 u3 u4 u5 p0 p1 p2 l3 l4 l5
        have K3 := Lib.hid (K3.out.below hb9)
        have K4 := Lib.hid (K4.out.below hb9)
        have K5 := Lib.hid (K5.out.below hb9)
        have HB := Lib.hid (HB.out.trans (hb9.mono HB.out.size))
        clear hb9
        obtain ⟨q0, q1, q2, _⟩ := blkc3 K3.out
        obtain ⟨u0, u1, u2, u3, u4, u5, _⟩ := blkc6 K4.out
        obtain ⟨p0, p1, p2, _⟩ := blkc3 K5.out
        have l3 := K3.out.lt
        have l4 := K4.out.lt
        have l5 := K5.out.lt
        obtain ⟨d0, d1, d2, d3, d4, d5, _⟩ := blkc6 K7.out
        have f3 := blk_fz K7.out 3
        have f4 := blk_fz K7.out 4
        have f5 := blk_fz K7.out 5
        have l7 := K7.out.lt
        have hmin : mb = min 1000 (br + 1) := HMB.out
        have hlb := HLB.out
        have hw1 : IntKind.i64.wrap (br + 1) = br + 1 := by rw [IntKind.wrap_i64]; omega
        go_cut [7] from 56 to 62 (fun v7 wx => v7 = .pointer (some ⟨X7, 0, none⟩) ∧ Hid (BlkR wx X7 (.cells #[.int .i64 vo, .int .i64 lo, .int .i64 hi', .int .i64 1000, .int .i64 mb, .int .i64 1000] 47)) ∧ Hid (Below w8.heap.size w8 wx))
        case first =>
         clear hmin hlb
         go_region
         all_goals
          go_wp2_with fail
          go_meet
          case rel => exact ⟨rfl, Lib.hid (by rw [HMB.out]; exact blk_set (blk_set (blk_set K7.out 3 (.int .i64 1000)) 4 (.int .i64 (min 1000 (br + 1)))) 5 (.int .i64 1000)), Lib.hid (((HQ9.out.setCell hx7 _).setCell hx7 _).setCell hx7 _).drew⟩
        case rest =>
         obtain ⟨wa, rfl⟩ : ∃ w', w' = wc := ⟨wc, rfl⟩
         obtain ⟨rfl, K7, HQ⟩ := hcut
         clear q0 q1 q2 u0 u1 u2 u3 u4 u5 p0 p1 p2 l3 l4 l5
         clear d0 d1 d2 d3 d4 d5 f3 f4 f5 l7 hmin hw1 HB
         have HB := Lib.hid (HB8.out.trans (HQ.out.mono HB8.out.size))
         have K3 := Lib.hid (J3.out.below HQ.out)
         have K4 := Lib.hid (J4.out.below HQ.out)
         have K5 := Lib.hid (J5.out.below HQ.out)
         clear HQ J3 J4 J5 HB8 HQ9
         obtain ⟨q0, q1, q2, _⟩ := blkc3 K3.out
         obtain ⟨u0, u1, u2, u3, u4, u5, _⟩ := blkc6 K4.out
         obtain ⟨p0, p1, p2, _⟩ := blkc3 K5.out
         have l3 := K3.out.lt
         have l4 := K4.out.lt
         have l5 := K5.out.lt
         obtain ⟨d0, d1, d2, d3, d4, d5, l7⟩ := blkc6 K7.out
         go_wp2_with fail
         go_cut [71] from 63 to 70 (fun v9 wx => v9 = .bool false ∧ Hid (Below wa.heap.size wa wx))
         case first =>
          have HN := Lib.hid (Below.refl wa.heap.size wa).drew
          refine wp_region_laterT (B := wa.heap.size) (.head 0 (.head 2 (.head 3 (.head 4 (.head 5 (.head 6 (.one 1 (.one 7 (.head 8 .done))))))))) (by kernel_rfl) (by kernel_rfl) ?_
          repeat (refine tree_head rfl ?_; (show wpQuiet _ _ _ _ (_ :: _) _; go_big_quiet_step (fail)); refine wpQuiet_nil ?_)
          refine tree_one rfl ?_
          go_wp2_with fail
          refine (HCP.out _ (HB.out.trans (HN.out.mono HB.out.size))).mono ?_
          rintro e1 wx1 ⟨a1, p1', a2, p2', rfl, hbx, hbr1, hgr1⟩
          have HBR := Lib.hid hbr1
          have HGR := Lib.hid hgr1
          clear hbr1 hgr1
          have hzx := hbx.size
          have HN := Lib.hid (HN.out.trans (hbx.mono HN.out.size))
          clear hbx
          go_wp2_with fail
          refine tailL_mk HN.out ?_
          repeat (refine tree_head rfl ?_; (show wpQuiet _ _ _ _ (_ :: _) _; go_big_quiet_step (fail)); refine wpQuiet_nil ?_)
          refine tree_one rfl ?_
          go_wp2_with fail
          refine (HCW.out a1 a2 p1' p2' _ HBR.out HGR.out).mono ?_
          rintro e1 wx2 ⟨rfl, hbx⟩
          have hzx := hbx.size
          have HN := Lib.hid (HN.out.trans (hbx.mono HN.out.size))
          have HBR := Lib.hid (HBR.out.below hbx)
          have HGR := Lib.hid (HGR.out.below hbx)
          clear hbx
          go_wp2_with fail
          refine tailL_mk HN.out ?_
          repeat (refine tree_head rfl ?_; (show wpQuiet _ _ _ _ (_ :: _) _; go_big_quiet_step (fail)); refine wpQuiet_nil ?_)
          refine tree_done ?_
          go_wp2_with fail
          go_meet
          case rel => exact ⟨by rfl, HN⟩
         case rest =>
          obtain ⟨wb, rfl⟩ : ∃ w', w' = wc := ⟨wc, rfl⟩
          obtain ⟨rfl, HQ⟩ := hcut
          have hbq := HQ.out
          clear d0 d1 d2 d3 d4 d5 l7 HQ HCW K7 HMB hne
          clear q0 q1 q2 u0 u1 u2 u3 u4 u5 p0 p1 p2 l3 l4 l5
          have K3 := Lib.hid (K3.out.below hbq)
          have K4 := Lib.hid (K4.out.below hbq)
          have K5 := Lib.hid (K5.out.below hbq)
          have HB := Lib.hid (HB.out.trans (hbq.mono HB.out.size))
          clear hbq
          obtain ⟨q0, q1, q2, _⟩ := blkc3 K3.out
          obtain ⟨u0, u1, u2, u3, u4, u5, _⟩ := blkc6 K4.out
          obtain ⟨p0, p1, p2, _⟩ := blkc3 K5.out
          have l3 := K3.out.lt
          have l4 := K4.out.lt
          have l5 := K5.out.lt
          go_wp2_with fail
          refine (HIC.out _).mono ?_
          rintro ex wb2 ⟨rfl, rfl⟩
          obtain ⟨tb, htb⟩ : ∃ tb, tb = n.testBit k := ⟨_, rfl⟩
          rw [← htb]
          rw [← htb] at HCLO
          clear htb HIC
          cases tb
          ·clear HCLO HBA HCP hlb
           go_wp2
           go_ret
           exact ⟨ret_bool (by simp), HB.out⟩
          ·obtain ⟨hba, hbv, ⟨⟨c1, c2, c3, c4, c5⟩, c6⟩, ⟨v1, v2, v3, v4, v5⟩, v6⟩ := HCLO.out (by first | rfl | trivial)
           rw [hba, hbv] at HBA
           rw [HLV.out.1] at c6
           rw [HLV.out.2] at v6
           generalize brkC m L n k y = BC at *
           generalize brkV m L n k y = BV at *
           obtain ⟨C1, C2⟩ := BC
           obtain ⟨V1, V2⟩ := BV
           simp only at HBA c1 c2 c3 c4 c5 c6 v1 v2 v3 v4 v5 v6
           obtain ⟨D1, hD1, hM1⟩ := cmpW (a := C1) (b := C2) (n := br) wb (by omega) (by omega) (by omega)
           obtain ⟨D2, hD2, hM2⟩ := cmpW (a := V1) (b := V2) (n := re) wb (by omega) (by omega) (by omega)
           have hle1 : D1 ≤ 0 := by
            rcases Int.lt_or_le 0 D1 with h | h
            ·have := hD1.1 h; omega
            ·exact h
           have hle2 : D2 ≤ 0 := by
            rcases Int.lt_or_le 0 D2 with h | h
            ·have := hD2.1 h; omega
            ·exact h
           have HM1 := Lib.hid hM1
           have HM2 := Lib.hid hM2
           have HI1 := Lib.hid (fun W => isLow6_any C1 C2 W (by omega) (by omega) c4 (by omega) c1)
           have HI2 := Lib.hid (fun W => isLow6_any V1 V2 W (by omega) (by omega) v4 (by omega) v1)
           have HS1 := Lib.hid (fun W => show Calls Tryz.prog 30 #[.agg #[.int .i64 C1, .int .i64 C2]] W (fun e' w' => e' = .returned (.bool true) ∧ Below W.heap.size W w') from by
            have h := bisSmall_any C1 C2 W
            rwa [show (wi C1 (-1000000000) 1000000000 && wi C2 1 1000000000) = true from by rw [Bool.and_eq_true, wi_iff, wi_iff]; omega] at h)
           have HS2 := Lib.hid (fun W => show Calls Tryz.prog 30 #[.agg #[.int .i64 V1, .int .i64 V2]] W (fun e' w' => e' = .returned (.bool true) ∧ Below W.heap.size W w') from by
            have h := bisSmall_any V1 V2 W
            rwa [show (wi V1 (-1000000000) 1000000000 && wi V2 1 1000000000) = true from by rw [Bool.and_eq_true, wi_iff, wi_iff]; omega] at h)
           have HW1 := Lib.hid (fun W => bwhole6_any br W)
           have HW2 := Lib.hid (fun W => bwhole6_any re W)
           have hx2 := HX2.out
           have HMD := Lib.hid (fun W => bmod6_any x2 (hi' - lo + 1) W (by omega) (by omega) hx2.1 hx2.2)
           have hmy : lo + x2 % (hi' - lo + 1) = y := HY.out.symm
           have hm0 := Int.emod_nonneg x2 (b := hi' - lo + 1) (by omega)
           have hm1 := Int.emod_lt_of_pos x2 (b := hi' - lo + 1) (by omega)
           have hw1 : IntKind.i64.wrap (hi' - lo) = hi' - lo := by rw [IntKind.wrap_i64]; omega
           have hw2 : IntKind.i64.wrap (hi' - lo + 1) = hi' - lo + 1 := by rw [IntKind.wrap_i64]; omega
           have hw3 : IntKind.i64.wrap (lo + x2 % (hi' - lo + 1)) = y := by rw [IntKind.wrap_i64, ← hmy]; omega
           clear hba hbv c1 c6 v1 v6 hD1 hD2 hM1 hM2 hx2 hmy HY HLV HCLO hm0 hm1 c5 v5 c3 v3 c4 v4
           go_wp2_with fail
           refine later_all (by kernel_rfl) (by kernel_rfl) ?_; repeat go_big_quiet_step(with_reducible exact calls_later_same (HMD.out _))
           refine wpQuiet_nil ?_; intro wd hbd
           clear q0 q1 q2 u0 u1 u2 u3 u4 u5 p0 p1 p2 l3 l4 l5
           have K3 := Lib.hid (K3.out.below hbd)
           have K4 := Lib.hid (K4.out.below hbd)
           have K5 := Lib.hid (K5.out.below hbd)
           have HB := Lib.hid (HB.out.trans (hbd.mono HB.out.size))
           clear hbd
           obtain ⟨q0, q1, q2, _⟩ := blkc3 K3.out
           obtain ⟨u0, u1, u2, u3, u4, u5, _⟩ := blkc6 K4.out
           obtain ⟨p0, p1, p2, _⟩ := blkc3 K5.out
           have l3 := K3.out.lt
           have l4 := K4.out.lt
           have l5 := K5.out.lt
           clear hw1 hw2 hw3 HMD
           go_wp2_with fail
           go_cut [9, 10] from 93 to 104 (fun v9 v10 wx => ∃ X9 : Nat, v9 = .pointer (some ⟨X9, 0, none⟩) ∧ v10 = .int .i64 0 ∧ Hid (BlkR wx X9 (.cells #[.int .i64 C1, .int .i64 C2, .int .i64 V1, .int .i64 V2] 106)) ∧ Hid (Below wd.heap.size wd wx))
           case first =>
            have HN := Lib.hid (Below.refl wd.heap.size wd).drew
            refine wp_region_laterT (B := wd.heap.size) (.head 0 (.head 2 (.head 3 (.head 4 (.head 5 (.head 6 (.head 7 (.two 1 (.two 8 (.head 9 (.head 10 (.head 11 (.one 12 (.one 13 (.head 14 .done)))))) 12 (.one 8 (.head 9 (.head 10 (.head 11 (.one 13 (.head 14 .done))))))) 12 (.one 1 (.one 8 (.head 9 (.head 10 (.head 11 (.one 13 (.head 14 .done))))))))))))))) (by kernel_rfl) (by kernel_rfl) ?_
            repeat (refine tree_head rfl ?_; (show wpQuiet _ _ _ _ (_ :: _) _; go_big_quiet_step (fail)); refine wpQuiet_nil ?_)
            refine tree_two rfl rfl ?_ ?_
            ·go_wp2_with fail
             refine (HCP.out _ (HB.out.trans (HN.out.mono HB.out.size))).mono ?_
             rintro e1 wx1 ⟨a1, p1', a2, p2', rfl, hbx, hbr1, hgr1⟩
             have HBR := Lib.hid hbr1
             have HGR := Lib.hid hgr1
             clear hbr1 hgr1
             have hzx := hbx.size
             have HN := Lib.hid (HN.out.trans (hbx.mono HN.out.size))
             clear hbx
             go_wp2_with fail
             refine tailL_mk HN.out ?_
             repeat (refine tree_head rfl ?_; (show wpQuiet _ _ _ _ (_ :: _) _; go_big_quiet_step (fail)); refine wpQuiet_nil ?_)
             refine tree_two rfl rfl ?_ ?_
             ·go_wp2_with fail
              refine (HBA.out a1 a2 p1' p2' _ HBR.out HGR.out).mono ?_
              rintro e1 wx2 ⟨rfl, hbx⟩
              have hzx := hbx.size
              have HN := Lib.hid (HN.out.trans (hbx.mono HN.out.size))
              have HBR := Lib.hid (HBR.out.below hbx)
              have HGR := Lib.hid (HGR.out.below hbx)
              clear hbx
              go_wp2_with fail
              refine tailL_mk HN.out ?_
              repeat (refine tree_head rfl ?_; (show wpQuiet _ _ _ _ (_ :: _) _; go_big_quiet_step (fail)); refine wpQuiet_nil ?_)
              refine tree_one rfl ?_
              go_wp2_with fail
              obtain ⟨X9, hX9⟩ : ∃ X, X = wx2.heap.size := ⟨_, rfl⟩
              have hNX : wd.heap.size ≤ X9 := by rw [hX9]; exact HN.out.size
              have hx9 : (wx2.alloc (Obj.cells #[.int .i64 0, .int .i64 0, .int .i64 0, .int .i64 0] 106)).heap[X9]? = some (.cells #[.int .i64 0, .int .i64 0, .int .i64 0, .int .i64 0] 106) := by rw [hX9]; exact heap_alloc_new _ _
              have l9 : X9 < (wx2.alloc (Obj.cells #[.int .i64 0, .int .i64 0, .int .i64 0, .int .i64 0] 106)).heap.size := by rw [hX9]; simp
              have hs9 : (wx2.alloc (Obj.cells #[.int .i64 0, .int .i64 0, .int .i64 0, .int .i64 0] 106)).heap.size = wx2.heap.size + 1 := by simp
              have hbx : Below wx2.heap.size wx2 (wx2.alloc (Obj.cells #[.int .i64 0, .int .i64 0, .int .i64 0, .int .i64 0] 106)) := by (repeat' first|(with_reducible first|exact bw1|assumption|refine bw2 ?_ _|refine bw3 ?_ ?_ _|refine bw4 ?_|refine bw5 ?_ ?_ _|refine bw6 (by assumption) ?_ ?_|exact And.left (by assumption))|go_size)
              try simp only [← hX9]
              generalize (wx2.alloc (Obj.cells #[.int .i64 0, .int .i64 0, .int .i64 0, .int .i64 0] 106)) = wx3 at *
              have HX9 := Lib.hid (And.intro hX9 hs9)
              have HN := Lib.hid (HN.out.trans (hbx.mono HN.out.size))
              have HBR := Lib.hid (HBR.out.below hbx)
              have HGR := Lib.hid (HGR.out.below hbx)
              clear hbx hX9 hs9
              refine tailL_mk HN.out ?_
              repeat (refine tree_head rfl ?_; (show wpQuiet _ _ _ _ (_ :: _) _; go_big_quiet_step (fail)); refine wpQuiet_nil ?_)
              refine tree_one rfl ?_
              have c90 := cell_of_row _ _ 0 _ _ _ hx9
              have f90 := frozen_of_row _ _ 0 _ _ hx9
              have c91 := cell_of_row _ _ 1 _ _ _ hx9
              have f91 := frozen_of_row _ _ 1 _ _ hx9
              have c92 := cell_of_row _ _ 2 _ _ _ hx9
              have f92 := frozen_of_row _ _ 2 _ _ hx9
              have c93 := cell_of_row _ _ 3 _ _ _ hx9
              have f93 := frozen_of_row _ _ 3 _ _ hx9
              simp only [List.getElem?_toArray, List.getElem?_cons_zero, List.getElem?_cons_succ] at c90 c91 c92 c93
              go_wp2_with fail
              have HN := Lib.hid (show Below wd.heap.size wd ((((wx3.setCell ⟨X9, 0, none⟩ (.int .i64 C1)).setCell ⟨X9, 1, none⟩ (.int .i64 C2)).setCell ⟨X9, 2, none⟩ (.int .i64 V1)).setCell ⟨X9, 3, none⟩ (.int .i64 V2)) from Below.setCell (Below.setCell (Below.setCell (Below.setCell (HN.out) hNX _) hNX _) hNX _) hNX _)
              have hxo := hx9
              have hx9 : ((((wx3.setCell ⟨X9, 0, none⟩ (.int .i64 C1)).setCell ⟨X9, 1, none⟩ (.int .i64 C2)).setCell ⟨X9, 2, none⟩ (.int .i64 V1)).setCell ⟨X9, 3, none⟩ (.int .i64 V2)).heap[X9]? = some (.cells #[.int .i64 C1, .int .i64 C2, .int .i64 V1, .int .i64 V2] 106) := blk_set (blk_set (blk_set (blk_set (hx9) 0 (.int .i64 C1)) 1 (.int .i64 C2)) 2 (.int .i64 V1)) 3 (.int .i64 V2)
              refine tailL_mk HN.out ?_
              repeat (refine tree_head rfl ?_; (show wpQuiet _ _ _ _ (_ :: _) _; go_big_quiet_step (fail)); refine wpQuiet_nil ?_)
              refine tree_done ?_
              go_wp2_with fail
              go_meet
              case rel => exact ⟨X9, rfl, rfl, Lib.hid hx9, HN⟩
             ·go_wp2_with fail
              obtain ⟨X9, hX9⟩ : ∃ X, X = wx1.heap.size := ⟨_, rfl⟩
              have hNX : wd.heap.size ≤ X9 := by rw [hX9]; exact HN.out.size
              have hx9 : (wx1.alloc (Obj.cells #[.int .i64 0, .int .i64 0, .int .i64 0, .int .i64 0] 106)).heap[X9]? = some (.cells #[.int .i64 0, .int .i64 0, .int .i64 0, .int .i64 0] 106) := by rw [hX9]; exact heap_alloc_new _ _
              have l9 : X9 < (wx1.alloc (Obj.cells #[.int .i64 0, .int .i64 0, .int .i64 0, .int .i64 0] 106)).heap.size := by rw [hX9]; simp
              have hs9 : (wx1.alloc (Obj.cells #[.int .i64 0, .int .i64 0, .int .i64 0, .int .i64 0] 106)).heap.size = wx1.heap.size + 1 := by simp
              have hbx : Below wx1.heap.size wx1 (wx1.alloc (Obj.cells #[.int .i64 0, .int .i64 0, .int .i64 0, .int .i64 0] 106)) := by (repeat' first|(with_reducible first|exact bw1|assumption|refine bw2 ?_ _|refine bw3 ?_ ?_ _|refine bw4 ?_|refine bw5 ?_ ?_ _|refine bw6 (by assumption) ?_ ?_|exact And.left (by assumption))|go_size)
              try simp only [← hX9]
              generalize (wx1.alloc (Obj.cells #[.int .i64 0, .int .i64 0, .int .i64 0, .int .i64 0] 106)) = wx5 at *
              have HX9 := Lib.hid (And.intro hX9 hs9)
              have HN := Lib.hid (HN.out.trans (hbx.mono HN.out.size))
              have HBR := Lib.hid (HBR.out.below hbx)
              have HGR := Lib.hid (HGR.out.below hbx)
              clear hbx hX9 hs9
              refine tailL_mk HN.out ?_
              repeat (refine tree_head rfl ?_; (show wpQuiet _ _ _ _ (_ :: _) _; go_big_quiet_step (fail)); refine wpQuiet_nil ?_)
              refine tree_one rfl ?_
              go_wp2_with fail
              refine (HBA.out a1 a2 p1' p2' _ HBR.out HGR.out).mono ?_
              rintro e1 wx6 ⟨rfl, hbx⟩
              have hzx := hbx.size
              have HN := Lib.hid (HN.out.trans (hbx.mono HN.out.size))
              have HBR := Lib.hid (HBR.out.below hbx)
              have HGR := Lib.hid (HGR.out.below hbx)
              have hx9 := (hbx.block X9 l9).trans hx9
              have l9 := Nat.lt_of_lt_of_le l9 hbx.size
              clear hbx
              go_wp2_with fail
              refine tailL_mk HN.out ?_
              repeat (refine tree_head rfl ?_; (show wpQuiet _ _ _ _ (_ :: _) _; go_big_quiet_step (fail)); refine wpQuiet_nil ?_)
              refine tree_one rfl ?_
              have c90 := cell_of_row _ _ 0 _ _ _ hx9
              have f90 := frozen_of_row _ _ 0 _ _ hx9
              have c91 := cell_of_row _ _ 1 _ _ _ hx9
              have f91 := frozen_of_row _ _ 1 _ _ hx9
              have c92 := cell_of_row _ _ 2 _ _ _ hx9
              have f92 := frozen_of_row _ _ 2 _ _ hx9
              have c93 := cell_of_row _ _ 3 _ _ _ hx9
              have f93 := frozen_of_row _ _ 3 _ _ hx9
              simp only [List.getElem?_toArray, List.getElem?_cons_zero, List.getElem?_cons_succ] at c90 c91 c92 c93
              go_wp2_with fail
              have HN := Lib.hid (show Below wd.heap.size wd ((((wx6.setCell ⟨X9, 0, none⟩ (.int .i64 C1)).setCell ⟨X9, 1, none⟩ (.int .i64 C2)).setCell ⟨X9, 2, none⟩ (.int .i64 V1)).setCell ⟨X9, 3, none⟩ (.int .i64 V2)) from Below.setCell (Below.setCell (Below.setCell (Below.setCell (HN.out) hNX _) hNX _) hNX _) hNX _)
              have hxo := hx9
              have hx9 : ((((wx6.setCell ⟨X9, 0, none⟩ (.int .i64 C1)).setCell ⟨X9, 1, none⟩ (.int .i64 C2)).setCell ⟨X9, 2, none⟩ (.int .i64 V1)).setCell ⟨X9, 3, none⟩ (.int .i64 V2)).heap[X9]? = some (.cells #[.int .i64 C1, .int .i64 C2, .int .i64 V1, .int .i64 V2] 106) := blk_set (blk_set (blk_set (blk_set (hx9) 0 (.int .i64 C1)) 1 (.int .i64 C2)) 2 (.int .i64 V1)) 3 (.int .i64 V2)
              refine tailL_mk HN.out ?_
              repeat (refine tree_head rfl ?_; (show wpQuiet _ _ _ _ (_ :: _) _; go_big_quiet_step (fail)); refine wpQuiet_nil ?_)
              refine tree_done ?_
              go_wp2_with fail
              go_meet
              case rel => exact ⟨X9, rfl, rfl, Lib.hid hx9, HN⟩
            ·go_wp2_with fail
             obtain ⟨X9, hX9⟩ : ∃ X, X = wd.heap.size := ⟨_, rfl⟩
             have hNX : wd.heap.size ≤ X9 := by rw [hX9]; exact HN.out.size
             have hx9 : (wd.alloc (Obj.cells #[.int .i64 0, .int .i64 0, .int .i64 0, .int .i64 0] 106)).drew.heap[X9]? = some (.cells #[.int .i64 0, .int .i64 0, .int .i64 0, .int .i64 0] 106) := by rw [hX9]; exact heap_alloc_new _ _
             have l9 : X9 < (wd.alloc (Obj.cells #[.int .i64 0, .int .i64 0, .int .i64 0, .int .i64 0] 106)).drew.heap.size := by rw [hX9]; simp
             have hs9 : (wd.alloc (Obj.cells #[.int .i64 0, .int .i64 0, .int .i64 0, .int .i64 0] 106)).drew.heap.size = wd.heap.size + 1 := by simp
             have hbx : Below wd.heap.size wd (wd.alloc (Obj.cells #[.int .i64 0, .int .i64 0, .int .i64 0, .int .i64 0] 106)).drew := by (repeat' first|(with_reducible first|exact bw1|assumption|refine bw2 ?_ _|refine bw3 ?_ ?_ _|refine bw4 ?_|refine bw5 ?_ ?_ _|refine bw6 (by assumption) ?_ ?_|exact And.left (by assumption))|go_size)
             try simp only [← hX9]
             generalize (wd.alloc (Obj.cells #[.int .i64 0, .int .i64 0, .int .i64 0, .int .i64 0] 106)).drew = wx8 at *
             have HX9 := Lib.hid (And.intro hX9 hs9)
             have HN := Lib.hid hbx
             clear hbx hX9 hs9
             refine tailL_mk HN.out ?_
             repeat (refine tree_head rfl ?_; (show wpQuiet _ _ _ _ (_ :: _) _; go_big_quiet_step (fail)); refine wpQuiet_nil ?_)
             refine tree_one rfl ?_
             go_wp2_with fail
             refine (HCP.out _ (HB.out.trans (HN.out.mono HB.out.size))).mono ?_
             rintro e1 wx9 ⟨a1, p1', a2, p2', rfl, hbx, hbr1, hgr1⟩
             have HBR := Lib.hid hbr1
             have HGR := Lib.hid hgr1
             clear hbr1 hgr1
             have hzx := hbx.size
             have HN := Lib.hid (HN.out.trans (hbx.mono HN.out.size))
             have hx9 := (hbx.block X9 l9).trans hx9
             have l9 := Nat.lt_of_lt_of_le l9 hbx.size
             clear hbx
             go_wp2_with fail
             refine tailL_mk HN.out ?_
             repeat (refine tree_head rfl ?_; (show wpQuiet _ _ _ _ (_ :: _) _; go_big_quiet_step (fail)); refine wpQuiet_nil ?_)
             refine tree_one rfl ?_
             go_wp2_with fail
             refine (HBA.out a1 a2 p1' p2' _ HBR.out HGR.out).mono ?_
             rintro e1 wx10 ⟨rfl, hbx⟩
             have hzx := hbx.size
             have HN := Lib.hid (HN.out.trans (hbx.mono HN.out.size))
             have HBR := Lib.hid (HBR.out.below hbx)
             have HGR := Lib.hid (HGR.out.below hbx)
             have hx9 := (hbx.block X9 l9).trans hx9
             have l9 := Nat.lt_of_lt_of_le l9 hbx.size
             clear hbx
             go_wp2_with fail
             refine tailL_mk HN.out ?_
             repeat (refine tree_head rfl ?_; (show wpQuiet _ _ _ _ (_ :: _) _; go_big_quiet_step (fail)); refine wpQuiet_nil ?_)
             refine tree_one rfl ?_
             have c90 := cell_of_row _ _ 0 _ _ _ hx9
             have f90 := frozen_of_row _ _ 0 _ _ hx9
             have c91 := cell_of_row _ _ 1 _ _ _ hx9
             have f91 := frozen_of_row _ _ 1 _ _ hx9
             have c92 := cell_of_row _ _ 2 _ _ _ hx9
             have f92 := frozen_of_row _ _ 2 _ _ hx9
             have c93 := cell_of_row _ _ 3 _ _ _ hx9
             have f93 := frozen_of_row _ _ 3 _ _ hx9
             simp only [List.getElem?_toArray, List.getElem?_cons_zero, List.getElem?_cons_succ] at c90 c91 c92 c93
             go_wp2_with fail
             have HN := Lib.hid (show Below wd.heap.size wd ((((wx10.setCell ⟨X9, 0, none⟩ (.int .i64 C1)).setCell ⟨X9, 1, none⟩ (.int .i64 C2)).setCell ⟨X9, 2, none⟩ (.int .i64 V1)).setCell ⟨X9, 3, none⟩ (.int .i64 V2)) from Below.setCell (Below.setCell (Below.setCell (Below.setCell (HN.out) hNX _) hNX _) hNX _) hNX _)
             have hxo := hx9
             have hx9 : ((((wx10.setCell ⟨X9, 0, none⟩ (.int .i64 C1)).setCell ⟨X9, 1, none⟩ (.int .i64 C2)).setCell ⟨X9, 2, none⟩ (.int .i64 V1)).setCell ⟨X9, 3, none⟩ (.int .i64 V2)).heap[X9]? = some (.cells #[.int .i64 C1, .int .i64 C2, .int .i64 V1, .int .i64 V2] 106) := blk_set (blk_set (blk_set (blk_set (hx9) 0 (.int .i64 C1)) 1 (.int .i64 C2)) 2 (.int .i64 V1)) 3 (.int .i64 V2)
             refine tailL_mk HN.out ?_
             repeat (refine tree_head rfl ?_; (show wpQuiet _ _ _ _ (_ :: _) _; go_big_quiet_step (fail)); refine wpQuiet_nil ?_)
             refine tree_done ?_
             go_wp2_with fail
             go_meet
             case rel => exact ⟨X9, rfl, rfl, Lib.hid hx9, HN⟩
           case rest =>
            obtain ⟨we, rfl⟩ : ∃ w', w' = wc := ⟨wc, rfl⟩
            obtain ⟨X9, rfl, rfl, K9, HQ⟩ := hcut
            have hbq := HQ.out
            clear q0 q1 q2 u0 u1 u2 u3 u4 u5 p0 p1 p2 l3 l4 l5
            have K3 := Lib.hid (K3.out.below hbq)
            have K4 := Lib.hid (K4.out.below hbq)
            have K5 := Lib.hid (K5.out.below hbq)
            have HB := Lib.hid (HB.out.trans (hbq.mono HB.out.size))
            clear hbq
            obtain ⟨q0, q1, q2, _⟩ := blkc3 K3.out
            obtain ⟨u0, u1, u2, u3, u4, u5, _⟩ := blkc6 K4.out
            obtain ⟨p0, p1, p2, _⟩ := blkc3 K5.out
            have l3 := K3.out.lt
            have l4 := K4.out.lt
            have l5 := K5.out.lt
            clear HQ HBA HCP
            obtain ⟨z0, z1, z2, z3, l9⟩ := blkc4 K9.out
            go_wp2_with fail
            refine later_all (by kernel_rfl) (by kernel_rfl) ?_; repeat go_big_quiet_step(first | with_reducible exact calls_later (HI1.out _) | with_reducible exact calls_later (HS1.out _) | with_reducible exact calls_later (HW1.out _) | with_reducible exact calls_later (HM1.out _) | with_reducible exact calls_later (HI2.out _) | with_reducible exact calls_later (HS2.out _) | with_reducible exact calls_later (HW2.out _) | with_reducible exact calls_later (HM2.out _))
            refine wpQuiet_nil ?_; intro wf hbf
            have HBF := Lib.hid (HB.out.trans (hbf.mono HB.out.size))
            go_wp2
            go_ret
            exact ⟨ret_bool (by simp), HBF.out⟩
      ·have e1 := bne_iff_ne.2 hG
       clear hG HGQ
       go_wp2
       go_ret
       exact ⟨ret_bool (by simp), HB.out⟩
    ·have e1 := bne_iff_ne.2 hC
     clear hC
     go_wp2
     go_ret
     exact ⟨ret_bool (by simp), HB.out⟩
   ·have e1 := bne_iff_ne.2 hS
    clear hS
    go_wp2
    go_ret
    exact ⟨ret_bool (by simp), HB.out⟩
  ·have e1 := bne_iff_ne.2 hO
   clear hO
   go_wp2
   go_ret
   exact ⟨ret_bool (by simp), HB.out⟩
 ·have e81 : (decide (nb ≤ 8) && decide (ng ≤ 32)) = false := by
    rw [Bool.eq_false_iff]
    intro h
    rw [Bool.and_eq_true, decide_eq_true_eq, decide_eq_true_eq] at h
    exact hfew h
  rw [e81]
  clear e81 hfew
  go_wp2
  go_ret
  exact ⟨rfl, HB.out⟩
end Go.Proofs.YtidboecjllaofaaGreat
