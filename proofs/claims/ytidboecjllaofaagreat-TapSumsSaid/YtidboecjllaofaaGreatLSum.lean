import Derived.Test.YtidboecjllaofaaGreatUTAwk
import Derived.Test.YtidboecjllaofaaGreatUTElx
import Derived.Test.YtidboecjllaofaaGreatUTRat
/- The law TapSums: no current is lost. -/
namespace Go.Proofs.YtidboecjllaofaaGreat
open Go.RowKit Go.Shelf
set_option linter.unusedVariables false
set_option linter.unusedSimpArgs false
attribute [local go_sem] Oper.semAt_some
theorem isLowest6_any (a b : Int) (w : World) (ha0 : -9223372036854775807 ≤ a) (ha1 : a ≤ 9223372036854775807) (hb0 : 0 < b) (hb1 : b ≤ 9223372036854775807) (hg : gc a b = 1) :
    Calls Tryz.prog 29 #[.agg #[.int .i64 a, .int .i64 b]] w fun e' w' => e' = .returned (.bool true) ∧ Below w.heap.size w w' := by
 have HG := Lib.hid (fun w' => bgcd_any a b w' ha0 ha1 (by omega) hb1)
 rw [hg] at HG
 clear hg
 go_enter Tryz.func29, Tryz.ntmps29
 go_wp2_with fail
 refine (HG.out _).mono ?_
 rintro e5 w5 ⟨rfl, k, rfl⟩
 go_wp2
 go_ret
 exact ⟨rfl, by (repeat' first|(with_reducible first|exact bw1|assumption|refine bw2 ?_ _|refine bw3 ?_ ?_ _|refine bw4 ?_|refine bw5 ?_ ?_ _|refine bw6 (by assumption) ?_ ?_|exact And.left (by assumption))|go_size)⟩
theorem wh6_any (n : Int) (w : World) : Calls Tryz.prog 35 #[.int .i64 n] w fun e' w' => e' = .returned (.agg #[.int .i64 n, .int .i64 1]) ∧ Below w.heap.size w w' := by
 go_enter Tryz.func35, Tryz.ntmps35
 go_wp2
 refine bodyPost_ret (v := .agg #[.int .i64 n, .int .i64 1]) (by simp [results, Tryz.results35, go_sem]) rfl ⟨rfl, by (repeat' first|(with_reducible first|exact bw1|assumption|refine bw2 ?_ _|refine bw3 ?_ ?_ _|refine bw4 ?_|refine bw5 ?_ ?_ _|refine bw6 (by assumption) ?_ ?_|exact And.left (by assumption))|go_size)⟩
theorem sm1 {l : List Int} : firstErr (0 :: l) = firstErr l := by show (if (0 : Int) = 0 then _ else _) = _; rw [if_pos rfl]
structure SumL (m : Mac) (l : Lim) (s load : Int) (E : Int) (CT : List (Int × Int)) (V : Int × Int) : Prop where
 bad : E ≠ 0 → CT = []
 ok : opnE m l = 0 → staE m.br.length s = 0 → loaE load = 0 → ∃ n : Nat, s = (n : Int) ∧ n < 2 ^ m.br.length ∧ n < 64 ∧ MacV m ∧ E = curE m n ∧ (curE m n = 0 → ElV m l n load ∧ CT = curT m l n load ∧ V = outT m l n load)
theorem sumLaw (m : Mac) (l : Lim) (s load : Int) : SumL m l s load (eleE m l s load) (if eleE m l s load = 0 then curT m l s.toNat load else []) (oinV m l s load) := by
 refine ⟨fun h => if_neg h, fun h h2 h3 => ?_⟩
 obtain ⟨hm, hl⟩ := opnE_zero h
 have hs := staE_zero.1 h2
 obtain ⟨n, rfl⟩ : ∃ n : Nat, s = n := ⟨s.toNat, by omega⟩
 have hn : n < 2 ^ m.br.length := by
  have : ((2 ^ m.br.length : Nat) : Int) = (2 : Int) ^ m.br.length := by push_cast; rfl
  omega
 have e : eleE m l (n : Int) load = curE m n := by
  have h1 : eleZ m l (n : Int) load = 0 := by show firstErr [opnE m l, _, _] = _; rw [h, sm1, h2, sm1, h3, sm1]; rfl
  unfold eleE
  rw [h1, if_neg (by decide), Int.toNat_natCast]
 refine ⟨n, rfl, hn, Nat.lt_of_lt_of_le hn (Nat.le_trans (Nat.pow_le_pow_right (by omega) hm.n1) (by decide)), hm, e, fun h4 => ⟨⟨hm, (limE_zero.1 hl).1, loaE_zero.1 h3, hn, curE_s0 h4⟩, ?_, ?_⟩⟩
 ·rw [e, if_pos h4, Int.toNat_natCast]
 ·unfold oinV; rw [e, if_pos h4, Int.toNat_natCast]
set_option maxHeartbeats 4000000 in
set_option maxRecDepth 100000 in
theorem sum_law (m : Mac) (l : Lim) (x0 x1 x2 : Int) (ab ag : Option Addr) (nb cb ng cg : Nat) (w : World) (hb : BrR w ab nb m.br) (hg : GrR w ag ng m.gs) :
    Calls Tryz.prog 4 #[.agg #[.slice ab nb cb, .int .i64 m.st, .slice ag ng cg], .agg #[.int .i64 l.volt, .int .i64 l.lo, .int .i64 l.hi, .int .i64 l.circ, .int .i64 l.brk, .int .i64 l.ret], .agg #[.int .i64 x0, .int .i64 x1, .int .i64 x2]] w fun e' w' => e' = .returned (.bool true) ∧ Below w.heap.size w w' := by
 have hlen := hb.len
 have HFW := Lib.hid (fun (W : World) => few_any m.st ab ag nb cb ng cg W hb.small hg.small)
 have HCP0 := Lib.hid (fun (h1 : nb ≤ 8) (h2 : ng ≤ 32) (W : World) (hbw : Below w.heap.size w W) => copyM_any m ab ag nb cb ng cg W (hb.below hbw) (hg.below hbw) (by omega) (by omega))
 have HCI0 := Lib.hid (fun (h8 : nb ≤ 8) (a1 a2 : Option Addr) (c1 c2 : Nat) (W : World) (h1 : BrR W a1 nb m.br) (h2 : GrR W a2 ng m.gs) => currentsIn_any m l x0 x2 a1 a2 nb c1 ng c2 W h1 h2 h8)
 have HOI0 := Lib.hid (fun (h8 : nb ≤ 8) (a1 a2 : Option Addr) (c1 c2 : Nat) (W : World) (h1 : BrR W a1 nb m.br) (h2 : GrR W a2 ng m.gs) => outputIn_any m l x0 x2 a1 a2 nb c1 ng c2 W h1 h2 h8)
 have HBE := Lib.hid (fun (W : World) (hbw : Below w.heap.size w W) => show Calls Tryz.prog 22 #[.agg #[.slice ab nb cb, .int .i64 m.st, .slice ag ng cg], .agg #[.int .i64 l.volt, .int .i64 l.lo, .int .i64 l.hi, .int .i64 l.circ, .int .i64 l.brk, .int .i64 l.ret]] W (fun e' w' => e' = .returned (.int .i64 (opnE m l)) ∧ Below W.heap.size W w') from bothErr_any m l ab ag nb cb ng cg W (hb.below hbw) (hg.below hbw))
 have HSE0 := Lib.hid (fun (h8 : nb ≤ 8) (W : World) => rStaE_any m.st nb cb ng cg ab ag x0 W h8)
 have HLE := Lib.hid (fun (W : World) => rLoaE_any x2 W)
 have HBRR := Lib.hid (fun (W : World) (hbw : Below w.heap.size w W) => hb.below hbw)
 have HCE := Lib.hid (fun (hm : MacV m) (n : Nat) (hn : n < 2 ^ nb) (W : World) (hbw : Below w.heap.size w W) => rCurrentsErr_any m n ab ag nb cb ng cg W hm (hb.below hbw) hn)
 have HL := Lib.hid (sumLaw m l x0 x2)
 obtain ⟨OE, hOE⟩ : ∃ O, O = opnE m l := ⟨_, rfl⟩
 rw [← hOE] at HBE
 have HOE := Lib.hid hOE
 obtain ⟨SE, hSE⟩ : ∃ O, O = staE nb x0 := ⟨_, rfl⟩
 rw [← hSE] at HSE0
 have HSQ := Lib.hid (show SE = staE m.br.length x0 by rw [hSE, hlen])
 obtain ⟨OL, hOL⟩ : ∃ O, O = loaE x2 := ⟨_, rfl⟩
 rw [← hOL] at HLE
 have HLQ := Lib.hid hOL
 clear hOE hSE hOL
 have HLN := Lib.hid hlen
 obtain ⟨CT, hCT⟩ : ∃ CT, CT = (if eleE m l x0 x2 = 0 then curT m l x0.toNat x2 else []) := ⟨_, rfl⟩
 rw [← hCT] at HCI0 HL
 generalize oinV m l x0 x2 = V at *
 generalize eleE m l x0 x2 = E at *
 obtain ⟨V1, V2⟩ := V
 obtain ⟨st, hst⟩ : ∃ x, x = m.st := ⟨_, rfl⟩
 rw [← hst] at HFW HCP0 HCI0 HOI0 HBE HSE0 HCE ⊢
 clear hb hg hst hCT hlen
 obtain ⟨vo, lo, hi', ci, br, re⟩ := l
 simp only at HCI0 HOI0 HBE ⊢
 have HVO := Lib.hid (fun k => show volA m ⟨vo, lo, hi', ci, br, re⟩ k = (bAt m.br k).tap * vo from rfl)
 generalize hLM : (⟨vo, lo, hi', ci, br, re⟩ : Lim) = L at *
 have HLM := Lib.hid hLM
 clear hLM
 go_enter Tryz.func4, Tryz.ntmps4
 go_wp2_with fail
 obtain ⟨w1, hW⟩ : ∃ w1, w1 = (((w.alloc (Obj.cells #[.slice ab nb cb, .int .i64 st, .slice ag ng cg] 45)).alloc (Obj.cells #[.int .i64 vo, .int .i64 lo, .int .i64 hi', .int .i64 ci, .int .i64 br, .int .i64 re] 47)).alloc (Obj.cells #[.int .i64 x0, .int .i64 x1, .int .i64 x2] 49)) := ⟨_, rfl⟩
 obtain ⟨hb1, k3, k4, k5⟩ := alc3 w (Obj.cells #[.slice ab nb cb, .int .i64 st, .slice ag ng cg] 45) (Obj.cells #[.int .i64 vo, .int .i64 lo, .int .i64 hi', .int .i64 ci, .int .i64 br, .int .i64 re] 47) (Obj.cells #[.int .i64 x0, .int .i64 x1, .int .i64 x2] 49)
 rw [← hW]
 rw [← hW] at hb1 k3 k4 k5
 obtain ⟨X3, hX3⟩ : ∃ X, X = w.heap.size := ⟨_, rfl⟩
 obtain ⟨X4, hX4⟩ : ∃ X, X = w.heap.size + 1 := ⟨_, rfl⟩
 obtain ⟨X5, hX5⟩ : ∃ X, X = w.heap.size + 1 + 1 := ⟨_, rfl⟩
 rw [← hX5] at k5
 rw [← hX4] at k4
 have k3 : BlkR w1 X3 (.cells #[.slice ab nb cb, .int .i64 st, .slice ag ng cg] 45) := by rw [hX3]; exact k3
 simp only [← hX5]
 simp only [← hX4]
 simp only [← hX3]
 refine (awake_any w1).mono ?_
 rintro e2 w2 ⟨rfl, hb2⟩
 have K3 := Lib.hid (k3.below hb2)
 have K4 := Lib.hid (k4.below hb2)
 have K5 := Lib.hid (k5.below hb2)
 have HB := Lib.hid (hb1.trans (hb2.mono hb1.size))
 clear hW hX3 hX4 hX5 hb1 hb2 k3 k4 k5
 obtain ⟨q0, q1, q2, _⟩ := blkc3 K3.out
 obtain ⟨u0, u1, u2, u3, u4, u5, _⟩ := blkc6 K4.out
 obtain ⟨p0, p1, p2, _⟩ := blkc3 K5.out
 have l3 := K3.out.lt
 have l4 := K4.out.lt
 have l5 := K5.out.lt
 go_wp2_with fail
 refine (HFW.out _).mono ?_
 rintro e3 w3 ⟨rfl, hb3⟩
 have K3 := Lib.hid (K3.out.below hb3)
 have K4 := Lib.hid (K4.out.below hb3)
 have K5 := Lib.hid (K5.out.below hb3)
 have HB := Lib.hid (HB.out.trans (hb3.mono HB.out.size))
 clear q0 q1 q2 u0 u1 u2 u3 u4 u5 p0 p1 p2 l3 l4 l5
 clear hb3 HFW
 by_cases hfew : nb ≤ 8 ∧ ng ≤ 32
 ·obtain ⟨h8, h32⟩ := hfew
  have HCP := Lib.hid (HCP0.out h8 h32)
  have HCI := Lib.hid (HCI0.out h8)
  have HOI := Lib.hid (HOI0.out h8)
  have HSE := Lib.hid (HSE0.out h8)
  have e81 : (decide (nb ≤ 8) && decide (ng ≤ 32)) = true := by rw [decide_eq_true h8, decide_eq_true h32]; rfl
  rw [e81]
  clear e81 HCP0 HCI0 HOI0 HSE0 h8 h32
  obtain ⟨q0, q1, q2, _⟩ := blkc3 K3.out
  obtain ⟨u0, u1, u2, u3, u4, u5, _⟩ := blkc6 K4.out
  obtain ⟨p0, p1, p2, _⟩ := blkc3 K5.out
  have l3 := K3.out.lt
  have l4 := K4.out.lt
  have l5 := K5.out.lt
  go_wp2_with fail
  refine (HBE.out _ HB.out).mono ?_
  rintro ex w4 ⟨rfl, hb4⟩
  clear q0 q1 q2 u0 u1 u2 u3 u4 u5 p0 p1 p2 l3 l4 l5
  have K3 := Lib.hid (K3.out.below hb4)
  have K4 := Lib.hid (K4.out.below hb4)
  have K5 := Lib.hid (K5.out.below hb4)
  have HB := Lib.hid (HB.out.trans (hb4.mono HB.out.size))
  clear hb4
  obtain ⟨q0, q1, q2, _⟩ := blkc3 K3.out
  obtain ⟨u0, u1, u2, u3, u4, u5, _⟩ := blkc6 K4.out
  obtain ⟨p0, p1, p2, _⟩ := blkc3 K5.out
  have l3 := K3.out.lt
  have l4 := K4.out.lt
  have l5 := K5.out.lt
  clear HBE
  by_cases hO : OE = 0
  ·subst hO
   go_wp2_with fail
   refine (HSE.out _).mono ?_
   rintro ex w5 ⟨rfl, hb5⟩
   clear q0 q1 q2 u0 u1 u2 u3 u4 u5 p0 p1 p2 l3 l4 l5
   have K3 := Lib.hid (K3.out.below hb5)
   have K4 := Lib.hid (K4.out.below hb5)
   have K5 := Lib.hid (K5.out.below hb5)
   have HB := Lib.hid (HB.out.trans (hb5.mono HB.out.size))
   clear hb5
   obtain ⟨q0, q1, q2, _⟩ := blkc3 K3.out
   obtain ⟨u0, u1, u2, u3, u4, u5, _⟩ := blkc6 K4.out
   obtain ⟨p0, p1, p2, _⟩ := blkc3 K5.out
   have l3 := K3.out.lt
   have l4 := K4.out.lt
   have l5 := K5.out.lt
   clear HSE
   by_cases hS : SE = 0
   ·subst hS
    go_wp2_with fail
    refine (HLE.out _).mono ?_
    rintro ex w6 ⟨rfl, rfl⟩
    clear HLE
    by_cases hA : OL = 0
    ·subst hA
     obtain ⟨n, rfl, hn, hn64, hm, hE, hk⟩ := HL.out.ok HOE.out.symm HSQ.out.symm HLQ.out.symm
     rw [HLN.out] at hn
     have HCE2 := Lib.hid (HCE.out hm n hn)
     have HBAD := Lib.hid HL.out.bad
     rw [← hE] at HCE2 hk
     have HK := Lib.hid hk
     have HM := Lib.hid hm
     have HEE := Lib.hid hE
     clear HL HCE hn hm hE hk HOE HSQ HLQ
     go_wp2_with fail
     go_cut [7, 8] from 39 to 49 (fun v7 v8 wx => ∃ (ac : Option Addr) (nc cc : Nat), v7 = .slice ac nc cc ∧ v8 = .int .i64 E ∧ Hid (PairsR wx ac nc CT) ∧ Hid (Below w5.heap.size w5 wx))
     case first =>
      have HN := Lib.hid (Below.refl w5.heap.size w5).drew
      refine wp_region_laterT (B := w5.heap.size) (.head 0 (.head 2 (.head 3 (.head 4 (.head 5 (.head 6 (.one 1 (.one 7 (.head 8 (.head 9 (.head 10 (.head 11 (.head 12 .done))))))))))))) (by kernel_rfl) (by kernel_rfl) ?_
      repeat (refine tree_head rfl ?_; (show wpQuiet _ _ _ _ (_ :: _) _; go_big_quiet_step (fail)); refine wpQuiet_nil ?_)
      refine tree_one rfl ?_
      go_wp2_with fail
      refine (HCP.out _ (HB.out.trans (HN.out.mono HB.out.size))).mono ?_
      rintro e1 wx1 ⟨a1, p1', a2, p2', rfl, hbx, hbr1, hgr1⟩
      have HBR := Lib.hid hbr1
      have HGR := Lib.hid hgr1
      clear hbr1 hgr1
      have hzx := hbx.size
      have HN := Lib.hid (HN.out.trans (hbx.mono HN.out.size))
      clear hbx
      go_wp2_with fail
      refine tailL_mk HN.out ?_
      repeat (refine tree_head rfl ?_; (show wpQuiet _ _ _ _ (_ :: _) _; go_big_quiet_step (fail)); refine wpQuiet_nil ?_)
      refine tree_one rfl ?_
      go_wp2_with fail
      refine (HCI.out a1 a2 p1' p2' _ HBR.out HGR.out).mono ?_
      rintro e1 wx2 ⟨ac, nc, cc, rfl, hbx, hcr⟩
      have HCR := Lib.hid hcr
      clear hcr
      have hzx := hbx.size
      have HN := Lib.hid (HN.out.trans (hbx.mono HN.out.size))
      have HBR := Lib.hid (HBR.out.below hbx)
      have HGR := Lib.hid (HGR.out.below hbx)
      clear hbx
      go_wp2_with fail
      refine tailL_mk HN.out ?_
      repeat (refine tree_head rfl ?_; (show wpQuiet _ _ _ _ (_ :: _) _; go_big_quiet_step (fail)); refine wpQuiet_nil ?_)
      refine tree_done ?_
      go_wp2_with fail
      go_meet
      case rel => exact ⟨ac, nc, cc, rfl, rfl, HCR, HN⟩
     case rest =>
      obtain ⟨w7, rfl⟩ : ∃ w', w' = wc := ⟨wc, rfl⟩
      obtain ⟨ac, nc, cc, rfl, rfl, HCR, HQ⟩ := hcut
      have hbq := HQ.out
      clear q0 q1 q2 u0 u1 u2 u3 u4 u5 p0 p1 p2 l3 l4 l5
      have K3 := Lib.hid (K3.out.below hbq)
      have K4 := Lib.hid (K4.out.below hbq)
      have K5 := Lib.hid (K5.out.below hbq)
      have HB := Lib.hid (HB.out.trans (hbq.mono HB.out.size))
      clear hbq
      obtain ⟨q0, q1, q2, _⟩ := blkc3 K3.out
      obtain ⟨u0, u1, u2, u3, u4, u5, _⟩ := blkc6 K4.out
      obtain ⟨p0, p1, p2, _⟩ := blkc3 K5.out
      have l3 := K3.out.lt
      have l4 := K4.out.lt
      have l5 := K5.out.lt
      clear HQ HCI
      go_wp2_with fail
      go_cut [9, 10] from 50 to 60 (fun v9 v10 wx => ∃ X9 : Nat, v9 = .pointer (some ⟨X9, 0, none⟩) ∧ v10 = .int .i64 E ∧ Hid (BlkR wx X9 (.cells #[.int .i64 V1, .int .i64 V2] 58)) ∧ Hid (Below w7.heap.size w7 wx))
      case first =>
       have HN := Lib.hid (Below.refl w7.heap.size w7).drew
       refine wp_region_laterT (B := w7.heap.size) (.head 0 (.head 2 (.head 3 (.head 4 (.head 5 (.head 6 (.two 1 (.two 7 (.head 8 (.head 9 (.head 10 (.one 11 (.one 12 (.head 13 .done)))))) 11 (.one 7 (.head 8 (.head 9 (.head 10 (.one 12 (.head 13 .done))))))) 11 (.one 1 (.one 7 (.head 8 (.head 9 (.head 10 (.one 12 (.head 13 .done)))))))))))))) (by kernel_rfl) (by kernel_rfl) ?_
       repeat (refine tree_head rfl ?_; (show wpQuiet _ _ _ _ (_ :: _) _; go_big_quiet_step (fail)); refine wpQuiet_nil ?_)
       refine tree_two rfl rfl ?_ ?_
       ·go_wp2_with fail
        refine (HCP.out _ (HB.out.trans (HN.out.mono HB.out.size))).mono ?_
        rintro e1 wx1 ⟨a1, p1', a2, p2', rfl, hbx, hbr1, hgr1⟩
        have HBR := Lib.hid hbr1
        have HGR := Lib.hid hgr1
        clear hbr1 hgr1
        have hzx := hbx.size
        have HN := Lib.hid (HN.out.trans (hbx.mono HN.out.size))
        clear hbx
        go_wp2_with fail
        refine tailL_mk HN.out ?_
        repeat (refine tree_head rfl ?_; (show wpQuiet _ _ _ _ (_ :: _) _; go_big_quiet_step (fail)); refine wpQuiet_nil ?_)
        refine tree_two rfl rfl ?_ ?_
        ·go_wp2_with fail
         refine (HOI.out a1 a2 p1' p2' _ HBR.out HGR.out).mono ?_
         rintro e1 wx2 ⟨rfl, hbx⟩
         have hzx := hbx.size
         have HN := Lib.hid (HN.out.trans (hbx.mono HN.out.size))
         have HBR := Lib.hid (HBR.out.below hbx)
         have HGR := Lib.hid (HGR.out.below hbx)
         clear hbx
         go_wp2_with fail
         refine tailL_mk HN.out ?_
         repeat (refine tree_head rfl ?_; (show wpQuiet _ _ _ _ (_ :: _) _; go_big_quiet_step (fail)); refine wpQuiet_nil ?_)
         refine tree_one rfl ?_
         go_wp2_with fail
         obtain ⟨X9, hX9⟩ : ∃ X, X = wx2.heap.size := ⟨_, rfl⟩
         have hNX : w7.heap.size ≤ X9 := by rw [hX9]; exact HN.out.size
         have hx9 : (wx2.alloc (Obj.cells #[.int .i64 0, .int .i64 0] 58)).heap[X9]? = some (.cells #[.int .i64 0, .int .i64 0] 58) := by rw [hX9]; exact heap_alloc_new _ _
         have l9 : X9 < (wx2.alloc (Obj.cells #[.int .i64 0, .int .i64 0] 58)).heap.size := by rw [hX9]; simp
         have hs9 : (wx2.alloc (Obj.cells #[.int .i64 0, .int .i64 0] 58)).heap.size = wx2.heap.size + 1 := by simp
         have hbx : Below wx2.heap.size wx2 (wx2.alloc (Obj.cells #[.int .i64 0, .int .i64 0] 58)) := by (repeat' first|(with_reducible first|exact bw1|assumption|refine bw2 ?_ _|refine bw3 ?_ ?_ _|refine bw4 ?_|refine bw5 ?_ ?_ _|refine bw6 (by assumption) ?_ ?_|exact And.left (by assumption))|go_size)
         try simp only [← hX9]
         generalize (wx2.alloc (Obj.cells #[.int .i64 0, .int .i64 0] 58)) = wx3 at *
         have HX9 := Lib.hid (And.intro hX9 hs9)
         have HN := Lib.hid (HN.out.trans (hbx.mono HN.out.size))
         have HBR := Lib.hid (HBR.out.below hbx)
         have HGR := Lib.hid (HGR.out.below hbx)
         clear hbx hX9 hs9
         refine tailL_mk HN.out ?_
         repeat (refine tree_head rfl ?_; (show wpQuiet _ _ _ _ (_ :: _) _; go_big_quiet_step (fail)); refine wpQuiet_nil ?_)
         refine tree_one rfl ?_
         have c90 := cell_of_row _ _ 0 _ _ _ hx9
         have f90 := frozen_of_row _ _ 0 _ _ hx9
         have c91 := cell_of_row _ _ 1 _ _ _ hx9
         have f91 := frozen_of_row _ _ 1 _ _ hx9
         simp only [List.getElem?_toArray, List.getElem?_cons_zero, List.getElem?_cons_succ] at c90 c91
         go_wp2_with fail
         have HN := Lib.hid (show Below w7.heap.size w7 ((wx3.setCell ⟨X9, 0, none⟩ (.int .i64 V1)).setCell ⟨X9, 1, none⟩ (.int .i64 V2)) from Below.setCell (Below.setCell (HN.out) hNX _) hNX _)
         have hxo := hx9
         have hx9 : ((wx3.setCell ⟨X9, 0, none⟩ (.int .i64 V1)).setCell ⟨X9, 1, none⟩ (.int .i64 V2)).heap[X9]? = some (.cells #[.int .i64 V1, .int .i64 V2] 58) := blk_set (blk_set (hx9) 0 (.int .i64 V1)) 1 (.int .i64 V2)
         refine tailL_mk HN.out ?_
         repeat (refine tree_head rfl ?_; (show wpQuiet _ _ _ _ (_ :: _) _; go_big_quiet_step (fail)); refine wpQuiet_nil ?_)
         refine tree_done ?_
         go_wp2_with fail
         go_meet
         case rel => exact ⟨X9, rfl, rfl, Lib.hid hx9, HN⟩
        ·go_wp2_with fail
         obtain ⟨X9, hX9⟩ : ∃ X, X = wx1.heap.size := ⟨_, rfl⟩
         have hNX : w7.heap.size ≤ X9 := by rw [hX9]; exact HN.out.size
         have hx9 : (wx1.alloc (Obj.cells #[.int .i64 0, .int .i64 0] 58)).heap[X9]? = some (.cells #[.int .i64 0, .int .i64 0] 58) := by rw [hX9]; exact heap_alloc_new _ _
         have l9 : X9 < (wx1.alloc (Obj.cells #[.int .i64 0, .int .i64 0] 58)).heap.size := by rw [hX9]; simp
         have hs9 : (wx1.alloc (Obj.cells #[.int .i64 0, .int .i64 0] 58)).heap.size = wx1.heap.size + 1 := by simp
         have hbx : Below wx1.heap.size wx1 (wx1.alloc (Obj.cells #[.int .i64 0, .int .i64 0] 58)) := by (repeat' first|(with_reducible first|exact bw1|assumption|refine bw2 ?_ _|refine bw3 ?_ ?_ _|refine bw4 ?_|refine bw5 ?_ ?_ _|refine bw6 (by assumption) ?_ ?_|exact And.left (by assumption))|go_size)
         try simp only [← hX9]
         generalize (wx1.alloc (Obj.cells #[.int .i64 0, .int .i64 0] 58)) = wx5 at *
         have HX9 := Lib.hid (And.intro hX9 hs9)
         have HN := Lib.hid (HN.out.trans (hbx.mono HN.out.size))
         have HBR := Lib.hid (HBR.out.below hbx)
         have HGR := Lib.hid (HGR.out.below hbx)
         clear hbx hX9 hs9
         refine tailL_mk HN.out ?_
         repeat (refine tree_head rfl ?_; (show wpQuiet _ _ _ _ (_ :: _) _; go_big_quiet_step (fail)); refine wpQuiet_nil ?_)
         refine tree_one rfl ?_
         go_wp2_with fail
         refine (HOI.out a1 a2 p1' p2' _ HBR.out HGR.out).mono ?_
         rintro e1 wx6 ⟨rfl, hbx⟩
         have hzx := hbx.size
         have HN := Lib.hid (HN.out.trans (hbx.mono HN.out.size))
         have HBR := Lib.hid (HBR.out.below hbx)
         have HGR := Lib.hid (HGR.out.below hbx)
         have hx9 := (hbx.block X9 l9).trans hx9
         have l9 := Nat.lt_of_lt_of_le l9 hbx.size
         clear hbx
         go_wp2_with fail
         refine tailL_mk HN.out ?_
         repeat (refine tree_head rfl ?_; (show wpQuiet _ _ _ _ (_ :: _) _; go_big_quiet_step (fail)); refine wpQuiet_nil ?_)
         refine tree_one rfl ?_
         have c90 := cell_of_row _ _ 0 _ _ _ hx9
         have f90 := frozen_of_row _ _ 0 _ _ hx9
         have c91 := cell_of_row _ _ 1 _ _ _ hx9
         have f91 := frozen_of_row _ _ 1 _ _ hx9
         simp only [List.getElem?_toArray, List.getElem?_cons_zero, List.getElem?_cons_succ] at c90 c91
         go_wp2_with fail
         have HN := Lib.hid (show Below w7.heap.size w7 ((wx6.setCell ⟨X9, 0, none⟩ (.int .i64 V1)).setCell ⟨X9, 1, none⟩ (.int .i64 V2)) from Below.setCell (Below.setCell (HN.out) hNX _) hNX _)
         have hxo := hx9
         have hx9 : ((wx6.setCell ⟨X9, 0, none⟩ (.int .i64 V1)).setCell ⟨X9, 1, none⟩ (.int .i64 V2)).heap[X9]? = some (.cells #[.int .i64 V1, .int .i64 V2] 58) := blk_set (blk_set (hx9) 0 (.int .i64 V1)) 1 (.int .i64 V2)
         refine tailL_mk HN.out ?_
         repeat (refine tree_head rfl ?_; (show wpQuiet _ _ _ _ (_ :: _) _; go_big_quiet_step (fail)); refine wpQuiet_nil ?_)
         refine tree_done ?_
         go_wp2_with fail
         go_meet
         case rel => exact ⟨X9, rfl, rfl, Lib.hid hx9, HN⟩
       ·go_wp2_with fail
        obtain ⟨X9, hX9⟩ : ∃ X, X = w7.heap.size := ⟨_, rfl⟩
        have hNX : w7.heap.size ≤ X9 := by rw [hX9]; exact HN.out.size
        have hx9 : (w7.alloc (Obj.cells #[.int .i64 0, .int .i64 0] 58)).drew.heap[X9]? = some (.cells #[.int .i64 0, .int .i64 0] 58) := by rw [hX9]; exact heap_alloc_new _ _
        have l9 : X9 < (w7.alloc (Obj.cells #[.int .i64 0, .int .i64 0] 58)).drew.heap.size := by rw [hX9]; simp
        have hs9 : (w7.alloc (Obj.cells #[.int .i64 0, .int .i64 0] 58)).drew.heap.size = w7.heap.size + 1 := by simp
        have hbx : Below w7.heap.size w7 (w7.alloc (Obj.cells #[.int .i64 0, .int .i64 0] 58)).drew := by (repeat' first|(with_reducible first|exact bw1|assumption|refine bw2 ?_ _|refine bw3 ?_ ?_ _|refine bw4 ?_|refine bw5 ?_ ?_ _|refine bw6 (by assumption) ?_ ?_|exact And.left (by assumption))|go_size)
        try simp only [← hX9]
        generalize (w7.alloc (Obj.cells #[.int .i64 0, .int .i64 0] 58)).drew = wx8 at *
        have HX9 := Lib.hid (And.intro hX9 hs9)
        have HN := Lib.hid hbx
        clear hbx hX9 hs9
        refine tailL_mk HN.out ?_
        repeat (refine tree_head rfl ?_; (show wpQuiet _ _ _ _ (_ :: _) _; go_big_quiet_step (fail)); refine wpQuiet_nil ?_)
        refine tree_one rfl ?_
        go_wp2_with fail
        refine (HCP.out _ (HB.out.trans (HN.out.mono HB.out.size))).mono ?_
        rintro e1 wx9 ⟨a1, p1', a2, p2', rfl, hbx, hbr1, hgr1⟩
        have HBR := Lib.hid hbr1
        have HGR := Lib.hid hgr1
        clear hbr1 hgr1
        have hzx := hbx.size
        have HN := Lib.hid (HN.out.trans (hbx.mono HN.out.size))
        have hx9 := (hbx.block X9 l9).trans hx9
        have l9 := Nat.lt_of_lt_of_le l9 hbx.size
        clear hbx
        go_wp2_with fail
        refine tailL_mk HN.out ?_
        repeat (refine tree_head rfl ?_; (show wpQuiet _ _ _ _ (_ :: _) _; go_big_quiet_step (fail)); refine wpQuiet_nil ?_)
        refine tree_one rfl ?_
        go_wp2_with fail
        refine (HOI.out a1 a2 p1' p2' _ HBR.out HGR.out).mono ?_
        rintro e1 wx10 ⟨rfl, hbx⟩
        have hzx := hbx.size
        have HN := Lib.hid (HN.out.trans (hbx.mono HN.out.size))
        have HBR := Lib.hid (HBR.out.below hbx)
        have HGR := Lib.hid (HGR.out.below hbx)
        have hx9 := (hbx.block X9 l9).trans hx9
        have l9 := Nat.lt_of_lt_of_le l9 hbx.size
        clear hbx
        go_wp2_with fail
        refine tailL_mk HN.out ?_
        repeat (refine tree_head rfl ?_; (show wpQuiet _ _ _ _ (_ :: _) _; go_big_quiet_step (fail)); refine wpQuiet_nil ?_)
        refine tree_one rfl ?_
        have c90 := cell_of_row _ _ 0 _ _ _ hx9
        have f90 := frozen_of_row _ _ 0 _ _ hx9
        have c91 := cell_of_row _ _ 1 _ _ _ hx9
        have f91 := frozen_of_row _ _ 1 _ _ hx9
        simp only [List.getElem?_toArray, List.getElem?_cons_zero, List.getElem?_cons_succ] at c90 c91
        go_wp2_with fail
        have HN := Lib.hid (show Below w7.heap.size w7 ((wx10.setCell ⟨X9, 0, none⟩ (.int .i64 V1)).setCell ⟨X9, 1, none⟩ (.int .i64 V2)) from Below.setCell (Below.setCell (HN.out) hNX _) hNX _)
        have hxo := hx9
        have hx9 : ((wx10.setCell ⟨X9, 0, none⟩ (.int .i64 V1)).setCell ⟨X9, 1, none⟩ (.int .i64 V2)).heap[X9]? = some (.cells #[.int .i64 V1, .int .i64 V2] 58) := blk_set (blk_set (hx9) 0 (.int .i64 V1)) 1 (.int .i64 V2)
        refine tailL_mk HN.out ?_
        repeat (refine tree_head rfl ?_; (show wpQuiet _ _ _ _ (_ :: _) _; go_big_quiet_step (fail)); refine wpQuiet_nil ?_)
        refine tree_done ?_
        go_wp2_with fail
        go_meet
        case rel => exact ⟨X9, rfl, rfl, Lib.hid hx9, HN⟩
      case rest =>
       obtain ⟨w8, rfl⟩ : ∃ w', w' = wc := ⟨wc, rfl⟩
       obtain ⟨X9, rfl, rfl, K9, HQ⟩ := hcut
       have hbq := HQ.out
       clear q0 q1 q2 u0 u1 u2 u3 u4 u5 p0 p1 p2 l3 l4 l5
       have K3 := Lib.hid (K3.out.below hbq)
       have K4 := Lib.hid (K4.out.below hbq)
       have K5 := Lib.hid (K5.out.below hbq)
       have HB := Lib.hid (HB.out.trans (hbq.mono HB.out.size))
       have HCR := Lib.hid (PairsR.below HCR.out hbq)
       clear hbq HQ HOI HCP
       obtain ⟨q0, q1, q2, _⟩ := blkc3 K3.out
       obtain ⟨u0, u1, u2, u3, u4, u5, _⟩ := blkc6 K4.out
       obtain ⟨p0, p1, p2, _⟩ := blkc3 K5.out
       have l3 := K3.out.lt
       have l4 := K4.out.lt
       have l5 := K5.out.lt
       have xE : (E != E) = false := by simp
       go_wp2_with fail
       refine (HCE2.out _ HB.out).mono ?_
       rintro ex w9 ⟨rfl, hb9⟩
       clear q0 q1 q2 u0 u1 u2 u3 u4 u5 p0 p1 p2 l3 l4 l5
       have K3 := Lib.hid (K3.out.below hb9)
       have K4 := Lib.hid (K4.out.below hb9)
       have K5 := Lib.hid (K5.out.below hb9)
       have HB := Lib.hid (HB.out.trans (hb9.mono HB.out.size))
       have HCR := Lib.hid (PairsR.below HCR.out hb9)
       have K9 := Lib.hid (K9.out.below hb9)
       clear hb9
       obtain ⟨q0, q1, q2, _⟩ := blkc3 K3.out
       obtain ⟨u0, u1, u2, u3, u4, u5, _⟩ := blkc6 K4.out
       obtain ⟨p0, p1, p2, _⟩ := blkc3 K5.out
       have l3 := K3.out.lt
       have l4 := K4.out.lt
       have l5 := K5.out.lt
       clear HCE2
       by_cases hc : E = 0
       ·subst hc
        obtain ⟨he, hct, hv⟩ := HK.out (by first | rfl | trivial)
        have hlen := HLN.out
        have hn6 : nb ≤ 6 := by rw [← hlen]; exact HM.out.n1
        have hc0 : curE m n = 0 := HEE.out.symm
        have hvo := he.vo
        have hvl := outT_lowest he
        have HVQ := Lib.hid (show Rat.divInt V1 V2 = outQ m L n x2 by unfold outQ; rw [← hv])
        rw [← hv] at hvo hvl
        obtain ⟨v0, v1, v2⟩ := hvo
        simp only at v0 v1 v2 hvl
        obtain rfl : nc = nb := by
         have h := HCR.out.1
         rw [hct, pcells_length, curT_len, hlen] at h
         omega
        have HKK := Lib.hid (fun (k : Nat) (hk : k < nc) => show (0 < (CT.getD k (0, 0)).2 ∧ gc (CT.getD k (0, 0)).1 (CT.getD k (0, 0)).2 = 1) ∧ (CT.getD k (0, 0)).1.natAbs ≤ 320040000 ∧ (CT.getD k (0, 0)).2 ≤ 151200 ∧ Rat.divInt (CT.getD k (0, 0)).1 (CT.getD k (0, 0)).2 = zQ m L n x2 k ∧ (k ∉ cloU n 6 → CT.getD k (0, 0) = (0, 1)) from by
         have hk' : k < m.br.length := by rw [hlen]; exact hk
         rw [hct]
         have b := curT_bd he hk'
         refine ⟨curT_lowest he hk', b.1, b.2.2, ?_, fun h => curT_open he hk' h⟩
         rw [← frR_z he hk', frR_divInt])
        have HSZ := Lib.hid (show Sz 2 (outQ m L n x2) ∧ ∀ k, k < nc → Sz 2 (cumQ m L n x2 k) ∧ Sz 2 (cumQ m L n x2 (k + 1)) ∧ Sz 2 (zQ m L n x2 k) from by
         have hco := he.com
         obtain ⟨a1, a2, a3⟩ := he.vo
         refine ⟨sz_parts (by omega) (by omega), fun k hk => ?_⟩
         have z1 := sumZ_bd he k (by omega)
         have z2 := sumZ_bd he (k + 1) (by omega)
         have z3 := zcur_bd he (k := k) (by omega)
         exact ⟨sz_frac (by simp only [pw]; omega) hco.1 (by simp only [pw]; omega), sz_frac (by simp only [pw]; omega) hco.1 (by simp only [pw]; omega), sz_frac (by simp only [pw]; omega) hco.1 (by simp only [pw]; omega)⟩)
        have HSN := Lib.hid (show Sz 2 (cumQ m L n x2 nc) from by
         have hco := he.com
         have z1 := sumZ_bd he nc (by omega)
         exact sz_frac (by simp only [pw]; omega) hco.1 (by simp only [pw]; omega))
        have HCS := Lib.hid (fun k => cumQ_succ he k)
        have HCA := Lib.hid (show cumQ m L n x2 nc = ((x2 : Int) : Rat) from by rw [← hlen]; exact cumQ_all he)
        have HC0 := Lib.hid (cumQ_zero m L n x2)
        have HDR := Lib.hid (fun (k : Nat) (hk : k ∈ cloU n 6) => drop_eq he hc0 hk)
        have HBV := Lib.hid (fun (k : Nat) (hk : k < nc) => he.hm.br k (by rw [hlen]; exact hk))
        have HVB := Lib.hid (fun (k : Nat) (hk : k < nc) => vol_bd he.hm he.hl (k := k) (by rw [hlen]; exact hk))
        have HIC := Lib.hid (fun (i : Nat) (hi : i < nc) w' => isClosed_any n i w' hn64 (by omega))
        have hd := he.hd
        have HIL := Lib.hid (fun W => isLowest6_any V1 V2 W (by omega) (by omega) hvl.1 (by omega) hvl.2)
        have HIS := Lib.hid (fun W => show Calls Tryz.prog 30 #[.agg #[.int .i64 V1, .int .i64 V2]] W (fun e' w' => e' = .returned (.bool true) ∧ Below W.heap.size W w') from by
         have h := bisSmall_any V1 V2 W
         rwa [show (wi V1 (-1000000000) 1000000000 && wi V2 1 1000000000) = true from by rw [Bool.and_eq_true, wi_iff, wi_iff]; omega] at h)
        generalize cumQ m L n x2 = CQ at *
        generalize zQ m L n x2 = ZQ at *
        generalize outQ m L n x2 = OQ at *
        have x7 : ((nc : Int) != (nc : Int)) = false := by simp
        clear he hct hv hlen hc0 hvl HK HEE HLN HBAD HM
        obtain ⟨x0', x1', l9'⟩ := blkc2 K9.out
        go_wp2_with fail
        refine (HIL.out _).mono ?_
        rintro ex w10 ⟨rfl, hb10⟩
        clear q0 q1 q2 u0 u1 u2 u3 u4 u5 p0 p1 p2 l3 l4 l5
        have K3 := Lib.hid (K3.out.below hb10)
        have K4 := Lib.hid (K4.out.below hb10)
        have K5 := Lib.hid (K5.out.below hb10)
        have HB := Lib.hid (HB.out.trans (hb10.mono HB.out.size))
        have HCR := Lib.hid (PairsR.below HCR.out hb10)
        have K9 := Lib.hid (K9.out.below hb10)
        clear hb10
        obtain ⟨q0, q1, q2, _⟩ := blkc3 K3.out
        obtain ⟨u0, u1, u2, u3, u4, u5, _⟩ := blkc6 K4.out
        obtain ⟨p0, p1, p2, _⟩ := blkc3 K5.out
        have l3 := K3.out.lt
        have l4 := K4.out.lt
        have l5 := K5.out.lt
        clear x0' x1' l9'
        obtain ⟨x0', x1', l9'⟩ := blkc2 K9.out
        go_wp2_with fail
        refine (HIS.out _).mono ?_
        rintro ex w11 ⟨rfl, hb11⟩
        clear q0 q1 q2 u0 u1 u2 u3 u4 u5 p0 p1 p2 l3 l4 l5
        have K3 := Lib.hid (K3.out.below hb11)
        have K4 := Lib.hid (K4.out.below hb11)
        have K5 := Lib.hid (K5.out.below hb11)
        have HB := Lib.hid (HB.out.trans (hb11.mono HB.out.size))
        have HCR := Lib.hid (PairsR.below HCR.out hb11)
        have K9 := Lib.hid (K9.out.below hb11)
        clear hb11
        obtain ⟨q0, q1, q2, _⟩ := blkc3 K3.out
        obtain ⟨u0, u1, u2, u3, u4, u5, _⟩ := blkc6 K4.out
        obtain ⟨p0, p1, p2, _⟩ := blkc3 K5.out
        have l3 := K3.out.lt
        have l4 := K4.out.lt
        have l5 := K5.out.lt
        clear x0' x1' l9'
        obtain ⟨x0', x1', l9'⟩ := blkc2 K9.out
        clear HIL HIS x7
        go_wp2_with fail
        refine (rb_int 0 _ (by omega) (by omega)).mono ?_
        rintro ex w12 ⟨sA, aA, nA, cA, tA, bA, mA, dA, rfl, hb12, _, hA⟩
        clear q0 q1 q2 u0 u1 u2 u3 u4 u5 p0 p1 p2 l3 l4 l5
        have K3 := Lib.hid (K3.out.below hb12)
        have K4 := Lib.hid (K4.out.below hb12)
        have K5 := Lib.hid (K5.out.below hb12)
        have HB := Lib.hid (HB.out.trans (hb12.mono HB.out.size))
        have HCR := Lib.hid (PairsR.below HCR.out hb12)
        have K9 := Lib.hid (K9.out.below hb12)
        clear hb12
        obtain ⟨q0, q1, q2, _⟩ := blkc3 K3.out
        obtain ⟨u0, u1, u2, u3, u4, u5, _⟩ := blkc6 K4.out
        obtain ⟨p0, p1, p2, _⟩ := blkc3 K5.out
        have l3 := K3.out.lt
        have l4 := K4.out.lt
        have l5 := K5.out.lt
        clear x0' x1' l9'
        obtain ⟨x0', x1', l9'⟩ := blkc2 K9.out
        go_wp2_with fail
        obtain ⟨w13, hW⟩ : ∃ w13, w13 = w12.alloc (Obj.cells #[.int .i64 sA, .slice aA nA cA, .int .i64 tA, .slice bA mA dA] 66) := ⟨_, rfl⟩
        rw [← hW]
        have hb13 : Below w12.heap.size w12 w13 := by rw [hW]; (repeat' first|(with_reducible first|exact bw1|assumption|refine bw2 ?_ _|refine bw3 ?_ ?_ _|refine bw4 ?_|refine bw5 ?_ ?_ _|refine bw6 (by assumption) ?_ ?_|exact And.left (by assumption))|go_size)
        have k11 : BlkR w13 w12.heap.size (.cells #[.int .i64 sA, .slice aA nA cA, .int .i64 tA, .slice bA mA dA] 66) := by show w13.heap[w12.heap.size]? = _; rw [hW]; exact heap_alloc_new _ _
        have hA2 := (RatioR.here hA.out).below hb13
        have HA0 : RA (fun b => b = w12.heap.size) w13 (Qv.val ⟨sA, aA, nA, cA, tA, bA, mA, dA⟩) (CQ 0) := by
         rw [HC0.out]
         exact RatioR.mono hA2 (fun b hb => ⟨by omega, by have := hb13.size; omega⟩)
        obtain ⟨X11, hX11⟩ : ∃ X, X = w12.heap.size := ⟨_, rfl⟩
        rw [← hX11] at k11 HA0
        simp only [← hX11]
        have HU := Lib.hid HA0
        have K11 := Lib.hid k11
        have hx11 : w12.heap.size ≤ X11 := by omega
        have J3 := K3
        have J4 := K4
        have J5 := K5
        have J9 := K9
        have JCR := HCR
        have HBx := Lib.hid hb13
        have HB12 := HB
        clear q0 q1 q2 u0 u1 u2 u3 u4 u5 p0 p1 p2 l3 l4 l5
        clear hW hX11 hb13 k11 hA hA2 HA0 HC0 K3 K4 K5 K9 HCR HB x0' x1' l9'
        go_loopw [12] (fun x wr => ∃ (k : Nat) (u : Qv), x = .int .i64 (k : Int) ∧ k ≤ nc ∧ Hid (BlkR wr X11 (.cells u.row 66)) ∧ Hid (RA (fun b => b = X11) wr u.val (CQ k)) ∧ Hid (Below w12.heap.size w12 wr)) (fun x _ => nc - (intOf x).toNat)
        case atStart => exact ⟨0, ⟨sA, aA, nA, cA, tA, bA, mA, dA⟩, rfl, Nat.zero_le _, K11, HU, HBx⟩
        case round =>
         clear K11 HU HBx
         obtain ⟨k, ⟨s1, a1, n1, c1', t1, b1, m1, d1'⟩, rfl, hk, K11, HU, HBx⟩ := hrel
         have i0 : (0 : Int) ≤ (k : Int) := by omega
         have K11 := Lib.hid (show BlkR wr X11 (.cells #[.int .i64 s1, .slice a1 n1 c1', .int .i64 t1, .slice b1 m1 d1'] 66) from K11.out)
         have HU := Lib.hid (show RA (fun b => b = X11) wr (.agg #[.int .i64 s1, .slice a1 n1 c1', .int .i64 t1, .slice b1 m1 d1']) _ from HU.out)
         by_cases hlt : k < nc
         ·have i1 : (k : Int) < (nc : Int) := by omega
          obtain ⟨bc, oc, rfl, hbc, hcc⟩ := JCR.out.addr (by omega)
          obtain ⟨⟨hl1, hl2⟩, hp1, hp2, hz, hop⟩ := HKK.out k hlt
          obtain ⟨z1, z2, z3⟩ := HSZ.out.2 k hlt
          have hcp : w12.cell? ⟨bc, oc + k * 2, none⟩ = some (.int .i64 (CT.getD k (0, 0)).1) ∧ w12.cell? ⟨bc, oc + k * 2 + 1, none⟩ = some (.int .i64 (CT.getD k (0, 0)).2) := hcc k hlt
          obtain ⟨P, hP⟩ : ∃ P, P = (CT.getD k (0, 0)).1 := ⟨_, rfl⟩
          obtain ⟨Q, hQ⟩ : ∃ P, P = (CT.getD k (0, 0)).2 := ⟨_, rfl⟩
          have hpq : k ∉ cloU n 6 → P = 0 ∧ Q = 1 := fun h => by rw [hP, hQ, hop h]; exact ⟨rfl, rfl⟩
          rw [← hP, ← hQ] at hcp hz hl2
          rw [← hP] at hp1
          rw [← hQ] at hl1 hp2
          have HIL := Lib.hid (fun W => isLowest6_any P Q W (by omega) (by omega) hl1 (by omega) hl2)
          have HIS := Lib.hid (fun W => show Calls Tryz.prog 30 #[.agg #[.int .i64 P, .int .i64 Q]] W (fun e' w' => e' = .returned (.bool true) ∧ Below W.heap.size W w') from by
           have h := bisSmall_any P Q W
           rwa [show (wi P (-1000000000) 1000000000 && wi Q 1 1000000000) = true from by rw [Bool.and_eq_true, wi_iff, wi_iff]; omega] at h)
          have HPQ := Lib.hid hpq
          have HZ := Lib.hid hz
          have HCP2 := Lib.hid hcp
          have HBC := Lib.hid hbc
          have HS3 := Lib.hid (And.intro z1 (And.intro z2 z3))
          clear hcc hop hcp hP hQ hpq hz hbc z1 z2 z3 hl2
          have K3 := Lib.hid (J3.out.below HBx.out)
          have K4 := Lib.hid (J4.out.below HBx.out)
          have K5 := Lib.hid (J5.out.below HBx.out)
          have K9 := Lib.hid (J9.out.below HBx.out)
          obtain ⟨q0, q1, q2, _⟩ := blkc3 K3.out
          obtain ⟨u0, u1, u2, u3, u4, u5, _⟩ := blkc6 K4.out
          obtain ⟨p0, p1, p2, _⟩ := blkc3 K5.out
          have l3 := K3.out.lt
          have l4 := K4.out.lt
          have l5 := K5.out.lt
          obtain ⟨x0', x1', l9'⟩ := blkc2 K9.out
          have cp := (cellB HBx.out bc (oc + k * 2) HBC.out).trans HCP2.out.1
          have cq := (cellB HBx.out bc (oc + k * 2 + 1) HBC.out).trans HCP2.out.2
          have lbc := Nat.lt_of_lt_of_le HBC.out HBx.out.size
          go_wp2_with fail
          refine (HIL.out wr).mono ?_
          rintro ex wa ⟨rfl, hba⟩
          have K11 := Lib.hid (K11.out.below hba)
          have HU := Lib.hid (HU.out.below hba)
          have HBx := Lib.hid (HBx.out.trans (hba.mono HBx.out.size))
          clear q0 q1 q2 u0 u1 u2 u3 u4 u5 p0 p1 p2 l3 l4 l5
          clear x0' x1' l9' cp cq lbc hba
          have K3 := Lib.hid (J3.out.below HBx.out)
          have K4 := Lib.hid (J4.out.below HBx.out)
          have K5 := Lib.hid (J5.out.below HBx.out)
          have K9 := Lib.hid (J9.out.below HBx.out)
          obtain ⟨q0, q1, q2, _⟩ := blkc3 K3.out
          obtain ⟨u0, u1, u2, u3, u4, u5, _⟩ := blkc6 K4.out
          obtain ⟨p0, p1, p2, _⟩ := blkc3 K5.out
          have l3 := K3.out.lt
          have l4 := K4.out.lt
          have l5 := K5.out.lt
          obtain ⟨x0', x1', l9'⟩ := blkc2 K9.out
          have cp := (cellB HBx.out bc (oc + k * 2) HBC.out).trans HCP2.out.1
          have cq := (cellB HBx.out bc (oc + k * 2 + 1) HBC.out).trans HCP2.out.2
          have lbc := Nat.lt_of_lt_of_le HBC.out HBx.out.size
          go_wp2_with fail
          refine (HIS.out wa).mono ?_
          rintro ex wb ⟨rfl, hbb⟩
          have K11 := Lib.hid (K11.out.below hbb)
          have HU := Lib.hid (HU.out.below hbb)
          have HBx := Lib.hid (HBx.out.trans (hbb.mono HBx.out.size))
          clear q0 q1 q2 u0 u1 u2 u3 u4 u5 p0 p1 p2 l3 l4 l5
          clear x0' x1' l9' cp cq lbc hbb
          have K3 := Lib.hid (J3.out.below HBx.out)
          have K4 := Lib.hid (J4.out.below HBx.out)
          have K5 := Lib.hid (J5.out.below HBx.out)
          have K9 := Lib.hid (J9.out.below HBx.out)
          obtain ⟨q0, q1, q2, _⟩ := blkc3 K3.out
          obtain ⟨u0, u1, u2, u3, u4, u5, _⟩ := blkc6 K4.out
          obtain ⟨p0, p1, p2, _⟩ := blkc3 K5.out
          have l3 := K3.out.lt
          have l4 := K4.out.lt
          have l5 := K5.out.lt
          obtain ⟨x0', x1', l9'⟩ := blkc2 K9.out
          have cp := (cellB HBx.out bc (oc + k * 2) HBC.out).trans HCP2.out.1
          have cq := (cellB HBx.out bc (oc + k * 2 + 1) HBC.out).trans HCP2.out.2
          have lbc := Nat.lt_of_lt_of_le HBC.out HBx.out.size
          clear HIL HIS
          go_wp2_with fail
          refine (rb_from P Q wb (by omega) (by omega) (by omega) (by omega) (by omega)).mono ?_
          rintro ex wd ⟨sC, aC, nC, cC, tC, bC, mC, dC, rfl, hbd, _, hC⟩
          have hRC : RA (fun b => b = X11) wd (.agg #[.int .i64 sC, .slice aC nC cC, .int .i64 tC, .slice bC mC dC]) (ZQ k) := by rw [← HZ.out]; exact RA.new hC.out (fun b hb => by have := K11.out.lt; omega)
          have HE := Lib.hid hRC
          have K11 := Lib.hid (K11.out.below hbd)
          have HU := Lib.hid (HU.out.below hbd)
          have HBx := Lib.hid (HBx.out.trans (hbd.mono HBx.out.size))
          clear q0 q1 q2 u0 u1 u2 u3 u4 u5 p0 p1 p2 l3 l4 l5
          clear x0' x1' l9' cp cq lbc hbd
          have K3 := Lib.hid (J3.out.below HBx.out)
          have K4 := Lib.hid (J4.out.below HBx.out)
          have K5 := Lib.hid (J5.out.below HBx.out)
          have K9 := Lib.hid (J9.out.below HBx.out)
          obtain ⟨q0, q1, q2, _⟩ := blkc3 K3.out
          obtain ⟨u0, u1, u2, u3, u4, u5, _⟩ := blkc6 K4.out
          obtain ⟨p0, p1, p2, _⟩ := blkc3 K5.out
          have l3 := K3.out.lt
          have l4 := K4.out.lt
          have l5 := K5.out.lt
          obtain ⟨x0', x1', l9'⟩ := blkc2 K9.out
          have cp := (cellB HBx.out bc (oc + k * 2) HBC.out).trans HCP2.out.1
          have cq := (cellB HBx.out bc (oc + k * 2 + 1) HBC.out).trans HCP2.out.2
          have lbc := Nat.lt_of_lt_of_le HBC.out HBx.out.size
          clear hRC hC
          obtain ⟨y0, y1, y2, y3, l11⟩ := blkc4 K11.out
          go_wp2_with fail
          obtain ⟨we, hW⟩ : ∃ we, we = wd.alloc (Obj.cells #[.int .i64 sC, .slice aC nC cC, .int .i64 tC, .slice bC mC dC] 66) := ⟨_, rfl⟩
          rw [← hW]
          have hbe : Below wd.heap.size wd we := by rw [hW]; (repeat' first|(with_reducible first|exact bw1|assumption|refine bw2 ?_ _|refine bw3 ?_ ?_ _|refine bw4 ?_|refine bw5 ?_ ?_ _|refine bw6 (by assumption) ?_ ?_|exact And.left (by assumption))|go_size)
          have k13 : BlkR we wd.heap.size (.cells #[.int .i64 sC, .slice aC nC cC, .int .i64 tC, .slice bC mC dC] 66) := by show we.heap[wd.heap.size]? = _; rw [hW]; exact heap_alloc_new _ _
          obtain ⟨X13, hX13⟩ : ∃ X, X = wd.heap.size := ⟨_, rfl⟩
          have h1113 : X11 ≠ X13 := by omega
          rw [← hX13] at k13
          simp only [← hX13]
          clear y0 y1 y2 y3 l11 hW
          have HE := Lib.hid (HE.out.below hbe)
          have K13 := Lib.hid k13
          have HXX := Lib.hid hX13
          have K11 := Lib.hid (K11.out.below hbe)
          have HU := Lib.hid (HU.out.below hbe)
          have HBx := Lib.hid (HBx.out.trans (hbe.mono HBx.out.size))
          clear q0 q1 q2 u0 u1 u2 u3 u4 u5 p0 p1 p2 l3 l4 l5
          clear x0' x1' l9' cp cq lbc hbe
          have K3 := Lib.hid (J3.out.below HBx.out)
          have K4 := Lib.hid (J4.out.below HBx.out)
          have K5 := Lib.hid (J5.out.below HBx.out)
          have K9 := Lib.hid (J9.out.below HBx.out)
          obtain ⟨q0, q1, q2, _⟩ := blkc3 K3.out
          obtain ⟨u0, u1, u2, u3, u4, u5, _⟩ := blkc6 K4.out
          obtain ⟨p0, p1, p2, _⟩ := blkc3 K5.out
          have l3 := K3.out.lt
          have l4 := K4.out.lt
          have l5 := K5.out.lt
          obtain ⟨x0', x1', l9'⟩ := blkc2 K9.out
          have cp := (cellB HBx.out bc (oc + k * 2) HBC.out).trans HCP2.out.1
          have cq := (cellB HBx.out bc (oc + k * 2 + 1) HBC.out).trans HCP2.out.2
          have lbc := Nat.lt_of_lt_of_le HBC.out HBx.out.size
          clear k13 hX13
          refine (rb_add _ _ _ _ 2 2 we HU.out.rb HE.out.rb HS3.out.1 HS3.out.2.2 (by omega)).mono ?_
          rintro ex wf ⟨sS, aS, nS, cS, tS, bS, mS, dS, rfl, hbf, _, hS⟩
          have hRS : RA (fun b => b = X11) wf (.agg #[.int .i64 sS, .slice aS nS cS, .int .i64 tS, .slice bS mS dS]) (CQ (k + 1)) := by rw [← HCS.out k]; exact RA.new hS.out (fun b hb => by have := K11.out.lt; omega)
          have HE := Lib.hid (HE.out.below hbf)
          have K13 := Lib.hid (K13.out.below hbf)
          have K11 := Lib.hid (K11.out.below hbf)
          have HU := Lib.hid (HU.out.below hbf)
          have HBx := Lib.hid (HBx.out.trans (hbf.mono HBx.out.size))
          clear q0 q1 q2 u0 u1 u2 u3 u4 u5 p0 p1 p2 l3 l4 l5
          clear x0' x1' l9' cp cq lbc hbf
          have K3 := Lib.hid (J3.out.below HBx.out)
          have K4 := Lib.hid (J4.out.below HBx.out)
          have K5 := Lib.hid (J5.out.below HBx.out)
          have K9 := Lib.hid (J9.out.below HBx.out)
          obtain ⟨q0, q1, q2, _⟩ := blkc3 K3.out
          obtain ⟨u0, u1, u2, u3, u4, u5, _⟩ := blkc6 K4.out
          obtain ⟨p0, p1, p2, _⟩ := blkc3 K5.out
          have l3 := K3.out.lt
          have l4 := K4.out.lt
          have l5 := K5.out.lt
          obtain ⟨x0', x1', l9'⟩ := blkc2 K9.out
          have cp := (cellB HBx.out bc (oc + k * 2) HBC.out).trans HCP2.out.1
          have cq := (cellB HBx.out bc (oc + k * 2 + 1) HBC.out).trans HCP2.out.2
          have lbc := Nat.lt_of_lt_of_le HBC.out HBx.out.size
          obtain ⟨y0, y1, y2, y3, _⟩ := blkc4 K11.out
          have f0 := blk_fz K11.out 0
          have f1 := blk_fz K11.out 1
          have f2 := blk_fz K11.out 2
          have f3 := blk_fz K11.out 3
          have l11 := K11.out.lt
          have HU := Lib.hid (hRS.put (X := X11) rfl (.int .i64 sS) (.slice aS nS cS) (.int .i64 tS) (.slice bS mS dS))
          have HE := Lib.hid (HE.out.put (X := X11) rfl (.int .i64 sS) (.slice aS nS cS) (.int .i64 tS) (.slice bS mS dS))
          have K13 := Lib.hid (show BlkR (set4 wf X11 (.int .i64 sS) (.slice aS nS cS) (.int .i64 tS) (.slice bS mS dS)) X13 _ from (set4_other wf X11 X13 _ _ _ _ (fun e => h1113 e.symm)).trans K13.out)
          have KX := Lib.hid (show BlkR (set4 wf X11 (.int .i64 sS) (.slice aS nS cS) (.int .i64 tS) (.slice bS mS dS)) X11 _ from set4_same K11.out _ _ _ _)
          have HBx := Lib.hid (set4_below HBx.out hx11 (.int .i64 sS) (.slice aS nS cS) (.int .i64 tS) (.slice bS mS dS))
          clear hRS hS HXX
          go_upto_region 21 with fail
          show Code.wp _ _ _ _ (set4 wf X11 (.int .i64 sS) (.slice aS nS cS) (.int .i64 tS) (.slice bS mS dS))
          generalize set4 wf X11 (.int .i64 sS) (.slice aS nS cS) (.int .i64 tS) (.slice bS mS dS) = wg at *
          have K11 := KX
          clear q0 q1 q2 u0 u1 u2 u3 u4 u5 p0 p1 p2 l3 l4 l5
          clear KX y0 y1 y2 y3 f0 f1 f2 f3 l11 x0' x1' l9' cp cq lbc
          have K3 := Lib.hid (J3.out.below HBx.out)
          have K4 := Lib.hid (J4.out.below HBx.out)
          have K5 := Lib.hid (J5.out.below HBx.out)
          have K9 := Lib.hid (J9.out.below HBx.out)
          obtain ⟨q0, q1, q2, _⟩ := blkc3 K3.out
          obtain ⟨u0, u1, u2, u3, u4, u5, _⟩ := blkc6 K4.out
          obtain ⟨p0, p1, p2, _⟩ := blkc3 K5.out
          have l3 := K3.out.lt
          have l4 := K4.out.lt
          have l5 := K5.out.lt
          obtain ⟨x0', x1', l9'⟩ := blkc2 K9.out
          have cp := (cellB HBx.out bc (oc + k * 2) HBC.out).trans HCP2.out.1
          have cq := (cellB HBx.out bc (oc + k * 2 + 1) HBC.out).trans HCP2.out.2
          have lbc := Nat.lt_of_lt_of_le HBC.out HBx.out.size
          go_wp2_with fail
          refine (HIC.out k hlt _).mono ?_
          rintro ex wg2 ⟨rfl, rfl⟩
          obtain ⟨tb, htb⟩ : ∃ tb, tb = n.testBit k := ⟨_, rfl⟩
          rw [← htb]
          have HTB := Lib.hid htb
          clear htb
          cases tb
          ·obtain ⟨rfl, rfl⟩ := HPQ.out (fun h => by have h2 := (clo_mem h).2; rw [← HTB.out] at h2; cases h2)
           have HWH := Lib.hid (fun W => wh6_any 0 W)
           go_wp2_with fail
           refine later_all (by kernel_rfl) (by kernel_rfl) ?_; repeat go_big_quiet_step(with_reducible exact calls_later (HWH.out _))
           refine wpQuiet_nil ?_; intro wh hbh
           have K11 := Lib.hid (K11.out.below hbh)
           have HU := Lib.hid (HU.out.below hbh)
           have HBx := Lib.hid (HBx.out.trans (hbh.mono HBx.out.size))
           clear q0 q1 q2 u0 u1 u2 u3 u4 u5 p0 p1 p2 l3 l4 l5
           clear hbh x0' x1' l9' cp cq lbc
           go_wp2_with fail
           go_roundw
           case rel => exact ⟨k + 1, ⟨sS, aS, nS, cS, tS, bS, mS, dS⟩, by go_num, by omega, K11, HU, HBx⟩
           case measure => simp [intOf]; omega
          ·have HDX := Lib.hid (HDR.out k (by unfold cloU; rw [List.mem_filter, List.mem_range]; exact ⟨by omega, HTB.out.symm⟩))
           obtain ⟨bb, ob, rfl, hbb, hbr⟩ := (HBRR.out w (Below.refl _ _)).addr (by omega)
           obtain ⟨hc0, hc1⟩ := hbr k hlt
           obtain ⟨_, r0, r1⟩ := HBV.out k hlt
           obtain ⟨va0, va1⟩ := HVB.out k hlt
           have hva := HVO.out k
           obtain ⟨VA, hVA⟩ : ∃ VA, VA = volA m L k := ⟨_, rfl⟩
           rw [← hVA] at va0 va1 hva
           obtain ⟨tt, htt⟩ : ∃ tt, tt = (bAt m.br k).tap := ⟨_, rfl⟩
           obtain ⟨rr, hrr⟩ : ∃ tt, tt = (bAt m.br k).res := ⟨_, rfl⟩
           rw [← htt] at hc0 hva
           rw [← hrr] at hc1 r0 r1
           have HDY := Lib.hid (show (VA : Rat) - OQ = ZQ k * (rr : Rat) from by rw [hVA, hrr]; exact HDX.out)
           have hw1 : IntKind.i64.wrap (tt * vo) = VA := by rw [IntKind.wrap_i64, ← hva]; omega
           have hbw : Below w.heap.size w wg := HB12.out.trans (HBx.out.mono HB12.out.size)
           have hc0 := (cellB hbw bb (ob + k * 2) hbb).trans hc0
           have hc1 := (cellB hbw bb (ob + k * 2 + 1) hbb).trans hc1
           have lbb := Nat.lt_of_lt_of_le hbb hbw.size
           have z0 := blk_cell K13.out (i := 0) rfl
           clear hVA hva htt hrr hbr HDX hbb hbw z0
           go_wp2_with fail
           go_cut [14] from 133 to 145 (fun v14 wx => ∃ (X : Nat) (s9 t9 : Int) (a9 b9 : Option Addr) (n9 c9 m9 d9 : Nat), v14 = .pointer (some ⟨X, 0, none⟩) ∧ Hid (BlkR wx X (.cells #[.int .i64 s9, .slice a9 n9 c9, .int .i64 t9, .slice b9 m9 d9] 66)) ∧ Hid (RB wx (.agg #[.int .i64 s9, .slice a9 n9 c9, .int .i64 t9, .slice b9 m9 d9]) ((VA : Rat) - OQ)) ∧ Hid (Below wg.heap.size wg wx))
           case first =>
            have HN := Lib.hid (Below.refl wg.heap.size wg).drew
            refine wp_region_laterT (B := wg.heap.size) (.head 0 (.head 1 (.head 2 (.head 3 (.head 4 (.head 5 (.head 6 (.head 7 (.head 8 (.head 10 (.two 9 (.two 11 (.two 12 (.one 13 (.one 14 .done)) 13 (.one 12 (.one 14 .done))) 13 (.one 11 (.one 12 (.one 14 .done)))) 13 (.one 9 (.one 11 (.one 12 (.one 14 .done))))))))))))))) (by kernel_rfl) (by kernel_rfl) ?_
            repeat (refine tree_head rfl ?_; (show wpQuiet _ _ _ _ (_ :: _) _; go_big_quiet_step (fail)); refine wpQuiet_nil ?_)
            refine tree_two rfl rfl ?_ ?_
            ·go_wp2_with fail
             refine (rb_int VA _ (by omega) (by omega)).mono ?_
             rintro ex wx1 ⟨sA, aA, nA, cA, tA, bA, mA, dA, rfl, hbx, hA, hAs⟩
             have HA := Lib.hid hA
             have HS := Lib.hid hAs.out.here
             clear hA hAs
             have hzx := hbx.size
             have HN := Lib.hid (HN.out.trans (hbx.mono HN.out.size))
             clear hbx
             go_wp2_with fail
             refine tailL_mk HN.out ?_
             repeat (refine tree_head rfl ?_; (show wpQuiet _ _ _ _ (_ :: _) _; go_big_quiet_step (fail)); refine wpQuiet_nil ?_)
             refine tree_two rfl rfl ?_ ?_
             ·go_wp2_with fail
              refine (rb_from V1 V2 _ (by omega) (by omega) (by omega) (by omega) (by omega)).mono ?_
              rintro ex wx2 ⟨sC, aC, nC, cC, tC, bC, mC, dC, rfl, hbx, hC, hCs⟩
              have HC := Lib.hid hC
              have HS := Lib.hid hCs.out.here
              clear hC hCs
              rw [HVQ.out] at HC HS
              have hzx := hbx.size
              have HN := Lib.hid (HN.out.trans (hbx.mono HN.out.size))
              have HA := Lib.hid (HA.out.below hbx)
              clear hbx
              go_wp2_with fail
              refine tailL_mk HN.out ?_
              repeat (refine tree_head rfl ?_; (show wpQuiet _ _ _ _ (_ :: _) _; go_big_quiet_step (fail)); refine wpQuiet_nil ?_)
              refine tree_two rfl rfl ?_ ?_
              ·go_wp2_with fail
               refine (rb_sub _ _ _ _ 1 2 _ HA.out HC.out (sz_int (by omega) (by omega)) HSZ.out.1 (by omega)).mono ?_
               rintro ex wx3 ⟨sD, aD, nD, cD, tD, bD, mD, dD, rfl, hbx, hD, hDs⟩
               have HD := Lib.hid hD
               have HS := Lib.hid hDs.out.here
               clear hD hDs
               have hzx := hbx.size
               have HN := Lib.hid (HN.out.trans (hbx.mono HN.out.size))
               have HA := Lib.hid (HA.out.below hbx)
               have HC := Lib.hid (HC.out.below hbx)
               clear hbx
               go_wp2_with fail
               refine tailL_mk HN.out ?_
               repeat (refine tree_head rfl ?_; (show wpQuiet _ _ _ _ (_ :: _) _; go_big_quiet_step (fail)); refine wpQuiet_nil ?_)
               refine tree_one rfl ?_
               go_wp2_with fail
               obtain ⟨X9, hX9⟩ : ∃ X, X = wx3.heap.size := ⟨_, rfl⟩
               have hNX : wg.heap.size ≤ X9 := by rw [hX9]; exact HN.out.size
               have hx9 : (wx3.alloc (Obj.cells #[.int .i64 0, .slice none 0 0, .int .i64 0, .slice none 0 0] 66)).heap[X9]? = some (.cells #[.int .i64 0, .slice none 0 0, .int .i64 0, .slice none 0 0] 66) := by rw [hX9]; exact heap_alloc_new _ _
               have l9 : X9 < (wx3.alloc (Obj.cells #[.int .i64 0, .slice none 0 0, .int .i64 0, .slice none 0 0] 66)).heap.size := by rw [hX9]; simp
               have hs9 : (wx3.alloc (Obj.cells #[.int .i64 0, .slice none 0 0, .int .i64 0, .slice none 0 0] 66)).heap.size = wx3.heap.size + 1 := by simp
               have hbx : Below wx3.heap.size wx3 (wx3.alloc (Obj.cells #[.int .i64 0, .slice none 0 0, .int .i64 0, .slice none 0 0] 66)) := by (repeat' first|(with_reducible first|exact bw1|assumption|refine bw2 ?_ _|refine bw3 ?_ ?_ _|refine bw4 ?_|refine bw5 ?_ ?_ _|refine bw6 (by assumption) ?_ ?_|exact And.left (by assumption))|go_size)
               try simp only [← hX9]
               generalize (wx3.alloc (Obj.cells #[.int .i64 0, .slice none 0 0, .int .i64 0, .slice none 0 0] 66)) = wx4 at *
               have HX9 := Lib.hid (And.intro hX9 hs9)
               have HN := Lib.hid (HN.out.trans (hbx.mono HN.out.size))
               have HA := Lib.hid (HA.out.below hbx)
               have HC := Lib.hid (HC.out.below hbx)
               have HD := Lib.hid (HD.out.below hbx)
               have HS := Lib.hid (HS.out.below hbx)
               clear hbx hX9 hs9
               refine tailL_mk HN.out ?_
               repeat (refine tree_head rfl ?_; (show wpQuiet _ _ _ _ (_ :: _) _; go_big_quiet_step (fail)); refine wpQuiet_nil ?_)
               refine tree_one rfl ?_
               have c90 := cell_of_row _ _ 0 _ _ _ hx9
               have f90 := frozen_of_row _ _ 0 _ _ hx9
               have c91 := cell_of_row _ _ 1 _ _ _ hx9
               have f91 := frozen_of_row _ _ 1 _ _ hx9
               have c92 := cell_of_row _ _ 2 _ _ _ hx9
               have f92 := frozen_of_row _ _ 2 _ _ hx9
               have c93 := cell_of_row _ _ 3 _ _ _ hx9
               have f93 := frozen_of_row _ _ 3 _ _ hx9
               simp only [List.getElem?_toArray, List.getElem?_cons_zero, List.getElem?_cons_succ] at c90 c91 c92 c93
               go_wp2_with fail
               have HN := Lib.hid (show Below wg.heap.size wg ((((wx4.setCell ⟨X9, 0, none⟩ (.int .i64 sD)).setCell ⟨X9, 1, none⟩ (.slice aD nD cD)).setCell ⟨X9, 2, none⟩ (.int .i64 tD)).setCell ⟨X9, 3, none⟩ (.slice bD mD dD)) from Below.setCell (Below.setCell (Below.setCell (Below.setCell (HN.out) hNX _) hNX _) hNX _) hNX _)
               have hxo := hx9
               have hx9 : ((((wx4.setCell ⟨X9, 0, none⟩ (.int .i64 sD)).setCell ⟨X9, 1, none⟩ (.slice aD nD cD)).setCell ⟨X9, 2, none⟩ (.int .i64 tD)).setCell ⟨X9, 3, none⟩ (.slice bD mD dD)).heap[X9]? = some (.cells #[.int .i64 sD, .slice aD nD cD, .int .i64 tD, .slice bD mD dD] 66) := blk_set (blk_set (blk_set (blk_set (hx9) 0 (.int .i64 sD)) 1 (.slice aD nD cD)) 2 (.int .i64 tD)) 3 (.slice bD mD dD)
               refine tailL_mk HN.out ?_
               repeat (refine tree_head rfl ?_; (show wpQuiet _ _ _ _ (_ :: _) _; go_big_quiet_step (fail)); refine wpQuiet_nil ?_)
               refine tree_done ?_
               go_wp2_with fail
               have HR := Lib.hid (RB.put2 (X := X9) HS.out (fun b hb => by
                obtain ⟨hX9, hsz9⟩ := HX9.out
                (try simp only [World.size_drew] at *)
                omega))
               go_meet
               case rel => exact ⟨X9, sD, tD, aD, bD, nD, cD, mD, dD, rfl, Lib.hid hx9, HR, HN⟩
              ·go_wp2_with fail
               obtain ⟨X9, hX9⟩ : ∃ X, X = wx2.heap.size := ⟨_, rfl⟩
               have hNX : wg.heap.size ≤ X9 := by rw [hX9]; exact HN.out.size
               have hx9 : (wx2.alloc (Obj.cells #[.int .i64 0, .slice none 0 0, .int .i64 0, .slice none 0 0] 66)).heap[X9]? = some (.cells #[.int .i64 0, .slice none 0 0, .int .i64 0, .slice none 0 0] 66) := by rw [hX9]; exact heap_alloc_new _ _
               have l9 : X9 < (wx2.alloc (Obj.cells #[.int .i64 0, .slice none 0 0, .int .i64 0, .slice none 0 0] 66)).heap.size := by rw [hX9]; simp
               have hs9 : (wx2.alloc (Obj.cells #[.int .i64 0, .slice none 0 0, .int .i64 0, .slice none 0 0] 66)).heap.size = wx2.heap.size + 1 := by simp
               have hbx : Below wx2.heap.size wx2 (wx2.alloc (Obj.cells #[.int .i64 0, .slice none 0 0, .int .i64 0, .slice none 0 0] 66)) := by (repeat' first|(with_reducible first|exact bw1|assumption|refine bw2 ?_ _|refine bw3 ?_ ?_ _|refine bw4 ?_|refine bw5 ?_ ?_ _|refine bw6 (by assumption) ?_ ?_|exact And.left (by assumption))|go_size)
               try simp only [← hX9]
               generalize (wx2.alloc (Obj.cells #[.int .i64 0, .slice none 0 0, .int .i64 0, .slice none 0 0] 66)) = wx6 at *
               have HX9 := Lib.hid (And.intro hX9 hs9)
               have HN := Lib.hid (HN.out.trans (hbx.mono HN.out.size))
               have HA := Lib.hid (HA.out.below hbx)
               have HC := Lib.hid (HC.out.below hbx)
               clear hbx hX9 hs9
               refine tailL_mk HN.out ?_
               repeat (refine tree_head rfl ?_; (show wpQuiet _ _ _ _ (_ :: _) _; go_big_quiet_step (fail)); refine wpQuiet_nil ?_)
               refine tree_one rfl ?_
               go_wp2_with fail
               refine (rb_sub _ _ _ _ 1 2 _ HA.out HC.out (sz_int (by omega) (by omega)) HSZ.out.1 (by omega)).mono ?_
               rintro ex wx7 ⟨sD, aD, nD, cD, tD, bD, mD, dD, rfl, hbx, hD, hDs⟩
               have HD := Lib.hid hD
               have HS := Lib.hid hDs.out.here
               clear hD hDs
               have hzx := hbx.size
               have HN := Lib.hid (HN.out.trans (hbx.mono HN.out.size))
               have HA := Lib.hid (HA.out.below hbx)
               have HC := Lib.hid (HC.out.below hbx)
               have hx9 := (hbx.block X9 l9).trans hx9
               have l9 := Nat.lt_of_lt_of_le l9 hbx.size
               clear hbx
               go_wp2_with fail
               refine tailL_mk HN.out ?_
               repeat (refine tree_head rfl ?_; (show wpQuiet _ _ _ _ (_ :: _) _; go_big_quiet_step (fail)); refine wpQuiet_nil ?_)
               refine tree_one rfl ?_
               have c90 := cell_of_row _ _ 0 _ _ _ hx9
               have f90 := frozen_of_row _ _ 0 _ _ hx9
               have c91 := cell_of_row _ _ 1 _ _ _ hx9
               have f91 := frozen_of_row _ _ 1 _ _ hx9
               have c92 := cell_of_row _ _ 2 _ _ _ hx9
               have f92 := frozen_of_row _ _ 2 _ _ hx9
               have c93 := cell_of_row _ _ 3 _ _ _ hx9
               have f93 := frozen_of_row _ _ 3 _ _ hx9
               simp only [List.getElem?_toArray, List.getElem?_cons_zero, List.getElem?_cons_succ] at c90 c91 c92 c93
               go_wp2_with fail
               have HN := Lib.hid (show Below wg.heap.size wg ((((wx7.setCell ⟨X9, 0, none⟩ (.int .i64 sD)).setCell ⟨X9, 1, none⟩ (.slice aD nD cD)).setCell ⟨X9, 2, none⟩ (.int .i64 tD)).setCell ⟨X9, 3, none⟩ (.slice bD mD dD)) from Below.setCell (Below.setCell (Below.setCell (Below.setCell (HN.out) hNX _) hNX _) hNX _) hNX _)
               have hxo := hx9
               have hx9 : ((((wx7.setCell ⟨X9, 0, none⟩ (.int .i64 sD)).setCell ⟨X9, 1, none⟩ (.slice aD nD cD)).setCell ⟨X9, 2, none⟩ (.int .i64 tD)).setCell ⟨X9, 3, none⟩ (.slice bD mD dD)).heap[X9]? = some (.cells #[.int .i64 sD, .slice aD nD cD, .int .i64 tD, .slice bD mD dD] 66) := blk_set (blk_set (blk_set (blk_set (hx9) 0 (.int .i64 sD)) 1 (.slice aD nD cD)) 2 (.int .i64 tD)) 3 (.slice bD mD dD)
               refine tailL_mk HN.out ?_
               repeat (refine tree_head rfl ?_; (show wpQuiet _ _ _ _ (_ :: _) _; go_big_quiet_step (fail)); refine wpQuiet_nil ?_)
               refine tree_done ?_
               go_wp2_with fail
               have HR := Lib.hid (RB.put2 (X := X9) HS.out (fun b hb => by
                obtain ⟨hX9, hsz9⟩ := HX9.out
                (try simp only [World.size_drew] at *)
                omega))
               go_meet
               case rel => exact ⟨X9, sD, tD, aD, bD, nD, cD, mD, dD, rfl, Lib.hid hx9, HR, HN⟩
             ·go_wp2_with fail
              obtain ⟨X9, hX9⟩ : ∃ X, X = wx1.heap.size := ⟨_, rfl⟩
              have hNX : wg.heap.size ≤ X9 := by rw [hX9]; exact HN.out.size
              have hx9 : (wx1.alloc (Obj.cells #[.int .i64 0, .slice none 0 0, .int .i64 0, .slice none 0 0] 66)).heap[X9]? = some (.cells #[.int .i64 0, .slice none 0 0, .int .i64 0, .slice none 0 0] 66) := by rw [hX9]; exact heap_alloc_new _ _
              have l9 : X9 < (wx1.alloc (Obj.cells #[.int .i64 0, .slice none 0 0, .int .i64 0, .slice none 0 0] 66)).heap.size := by rw [hX9]; simp
              have hs9 : (wx1.alloc (Obj.cells #[.int .i64 0, .slice none 0 0, .int .i64 0, .slice none 0 0] 66)).heap.size = wx1.heap.size + 1 := by simp
              have hbx : Below wx1.heap.size wx1 (wx1.alloc (Obj.cells #[.int .i64 0, .slice none 0 0, .int .i64 0, .slice none 0 0] 66)) := by (repeat' first|(with_reducible first|exact bw1|assumption|refine bw2 ?_ _|refine bw3 ?_ ?_ _|refine bw4 ?_|refine bw5 ?_ ?_ _|refine bw6 (by assumption) ?_ ?_|exact And.left (by assumption))|go_size)
              try simp only [← hX9]
              generalize (wx1.alloc (Obj.cells #[.int .i64 0, .slice none 0 0, .int .i64 0, .slice none 0 0] 66)) = wx9 at *
              have HX9 := Lib.hid (And.intro hX9 hs9)
              have HN := Lib.hid (HN.out.trans (hbx.mono HN.out.size))
              have HA := Lib.hid (HA.out.below hbx)
              clear hbx hX9 hs9
              refine tailL_mk HN.out ?_
              repeat (refine tree_head rfl ?_; (show wpQuiet _ _ _ _ (_ :: _) _; go_big_quiet_step (fail)); refine wpQuiet_nil ?_)
              refine tree_one rfl ?_
              go_wp2_with fail
              refine (rb_from V1 V2 _ (by omega) (by omega) (by omega) (by omega) (by omega)).mono ?_
              rintro ex wx10 ⟨sC, aC, nC, cC, tC, bC, mC, dC, rfl, hbx, hC, hCs⟩
              have HC := Lib.hid hC
              have HS := Lib.hid hCs.out.here
              clear hC hCs
              rw [HVQ.out] at HC HS
              have hzx := hbx.size
              have HN := Lib.hid (HN.out.trans (hbx.mono HN.out.size))
              have HA := Lib.hid (HA.out.below hbx)
              have hx9 := (hbx.block X9 l9).trans hx9
              have l9 := Nat.lt_of_lt_of_le l9 hbx.size
              clear hbx
              go_wp2_with fail
              refine tailL_mk HN.out ?_
              repeat (refine tree_head rfl ?_; (show wpQuiet _ _ _ _ (_ :: _) _; go_big_quiet_step (fail)); refine wpQuiet_nil ?_)
              refine tree_one rfl ?_
              go_wp2_with fail
              refine (rb_sub _ _ _ _ 1 2 _ HA.out HC.out (sz_int (by omega) (by omega)) HSZ.out.1 (by omega)).mono ?_
              rintro ex wx11 ⟨sD, aD, nD, cD, tD, bD, mD, dD, rfl, hbx, hD, hDs⟩
              have HD := Lib.hid hD
              have HS := Lib.hid hDs.out.here
              clear hD hDs
              have hzx := hbx.size
              have HN := Lib.hid (HN.out.trans (hbx.mono HN.out.size))
              have HA := Lib.hid (HA.out.below hbx)
              have HC := Lib.hid (HC.out.below hbx)
              have hx9 := (hbx.block X9 l9).trans hx9
              have l9 := Nat.lt_of_lt_of_le l9 hbx.size
              clear hbx
              go_wp2_with fail
              refine tailL_mk HN.out ?_
              repeat (refine tree_head rfl ?_; (show wpQuiet _ _ _ _ (_ :: _) _; go_big_quiet_step (fail)); refine wpQuiet_nil ?_)
              refine tree_one rfl ?_
              have c90 := cell_of_row _ _ 0 _ _ _ hx9
              have f90 := frozen_of_row _ _ 0 _ _ hx9
              have c91 := cell_of_row _ _ 1 _ _ _ hx9
              have f91 := frozen_of_row _ _ 1 _ _ hx9
              have c92 := cell_of_row _ _ 2 _ _ _ hx9
              have f92 := frozen_of_row _ _ 2 _ _ hx9
              have c93 := cell_of_row _ _ 3 _ _ _ hx9
              have f93 := frozen_of_row _ _ 3 _ _ hx9
              simp only [List.getElem?_toArray, List.getElem?_cons_zero, List.getElem?_cons_succ] at c90 c91 c92 c93
              go_wp2_with fail
              have HN := Lib.hid (show Below wg.heap.size wg ((((wx11.setCell ⟨X9, 0, none⟩ (.int .i64 sD)).setCell ⟨X9, 1, none⟩ (.slice aD nD cD)).setCell ⟨X9, 2, none⟩ (.int .i64 tD)).setCell ⟨X9, 3, none⟩ (.slice bD mD dD)) from Below.setCell (Below.setCell (Below.setCell (Below.setCell (HN.out) hNX _) hNX _) hNX _) hNX _)
              have hxo := hx9
              have hx9 : ((((wx11.setCell ⟨X9, 0, none⟩ (.int .i64 sD)).setCell ⟨X9, 1, none⟩ (.slice aD nD cD)).setCell ⟨X9, 2, none⟩ (.int .i64 tD)).setCell ⟨X9, 3, none⟩ (.slice bD mD dD)).heap[X9]? = some (.cells #[.int .i64 sD, .slice aD nD cD, .int .i64 tD, .slice bD mD dD] 66) := blk_set (blk_set (blk_set (blk_set (hx9) 0 (.int .i64 sD)) 1 (.slice aD nD cD)) 2 (.int .i64 tD)) 3 (.slice bD mD dD)
              refine tailL_mk HN.out ?_
              repeat (refine tree_head rfl ?_; (show wpQuiet _ _ _ _ (_ :: _) _; go_big_quiet_step (fail)); refine wpQuiet_nil ?_)
              refine tree_done ?_
              go_wp2_with fail
              have HR := Lib.hid (RB.put2 (X := X9) HS.out (fun b hb => by
               obtain ⟨hX9, hsz9⟩ := HX9.out
               (try simp only [World.size_drew] at *)
               omega))
              go_meet
              case rel => exact ⟨X9, sD, tD, aD, bD, nD, cD, mD, dD, rfl, Lib.hid hx9, HR, HN⟩
            ·go_wp2_with fail
             obtain ⟨X9, hX9⟩ : ∃ X, X = wg.heap.size := ⟨_, rfl⟩
             have hNX : wg.heap.size ≤ X9 := by rw [hX9]; exact HN.out.size
             have hx9 : (wg.alloc (Obj.cells #[.int .i64 0, .slice none 0 0, .int .i64 0, .slice none 0 0] 66)).drew.heap[X9]? = some (.cells #[.int .i64 0, .slice none 0 0, .int .i64 0, .slice none 0 0] 66) := by rw [hX9]; exact heap_alloc_new _ _
             have l9 : X9 < (wg.alloc (Obj.cells #[.int .i64 0, .slice none 0 0, .int .i64 0, .slice none 0 0] 66)).drew.heap.size := by rw [hX9]; simp
             have hs9 : (wg.alloc (Obj.cells #[.int .i64 0, .slice none 0 0, .int .i64 0, .slice none 0 0] 66)).drew.heap.size = wg.heap.size + 1 := by simp
             have hbx : Below wg.heap.size wg (wg.alloc (Obj.cells #[.int .i64 0, .slice none 0 0, .int .i64 0, .slice none 0 0] 66)).drew := by (repeat' first|(with_reducible first|exact bw1|assumption|refine bw2 ?_ _|refine bw3 ?_ ?_ _|refine bw4 ?_|refine bw5 ?_ ?_ _|refine bw6 (by assumption) ?_ ?_|exact And.left (by assumption))|go_size)
             try simp only [← hX9]
             generalize (wg.alloc (Obj.cells #[.int .i64 0, .slice none 0 0, .int .i64 0, .slice none 0 0] 66)).drew = wx13 at *
             have HX9 := Lib.hid (And.intro hX9 hs9)
             have HN := Lib.hid hbx
             clear hbx hX9 hs9
             refine tailL_mk HN.out ?_
             repeat (refine tree_head rfl ?_; (show wpQuiet _ _ _ _ (_ :: _) _; go_big_quiet_step (fail)); refine wpQuiet_nil ?_)
             refine tree_one rfl ?_
             go_wp2_with fail
             refine (rb_int VA _ (by omega) (by omega)).mono ?_
             rintro ex wx14 ⟨sA, aA, nA, cA, tA, bA, mA, dA, rfl, hbx, hA, hAs⟩
             have HA := Lib.hid hA
             have HS := Lib.hid hAs.out.here
             clear hA hAs
             have hzx := hbx.size
             have HN := Lib.hid (HN.out.trans (hbx.mono HN.out.size))
             have hx9 := (hbx.block X9 l9).trans hx9
             have l9 := Nat.lt_of_lt_of_le l9 hbx.size
             clear hbx
             go_wp2_with fail
             refine tailL_mk HN.out ?_
             repeat (refine tree_head rfl ?_; (show wpQuiet _ _ _ _ (_ :: _) _; go_big_quiet_step (fail)); refine wpQuiet_nil ?_)
             refine tree_one rfl ?_
             go_wp2_with fail
             refine (rb_from V1 V2 _ (by omega) (by omega) (by omega) (by omega) (by omega)).mono ?_
             rintro ex wx15 ⟨sC, aC, nC, cC, tC, bC, mC, dC, rfl, hbx, hC, hCs⟩
             have HC := Lib.hid hC
             have HS := Lib.hid hCs.out.here
             clear hC hCs
             rw [HVQ.out] at HC HS
             have hzx := hbx.size
             have HN := Lib.hid (HN.out.trans (hbx.mono HN.out.size))
             have HA := Lib.hid (HA.out.below hbx)
             have hx9 := (hbx.block X9 l9).trans hx9
             have l9 := Nat.lt_of_lt_of_le l9 hbx.size
             clear hbx
             go_wp2_with fail
             refine tailL_mk HN.out ?_
             repeat (refine tree_head rfl ?_; (show wpQuiet _ _ _ _ (_ :: _) _; go_big_quiet_step (fail)); refine wpQuiet_nil ?_)
             refine tree_one rfl ?_
             go_wp2_with fail
             refine (rb_sub _ _ _ _ 1 2 _ HA.out HC.out (sz_int (by omega) (by omega)) HSZ.out.1 (by omega)).mono ?_
             rintro ex wx16 ⟨sD, aD, nD, cD, tD, bD, mD, dD, rfl, hbx, hD, hDs⟩
             have HD := Lib.hid hD
             have HS := Lib.hid hDs.out.here
             clear hD hDs
             have hzx := hbx.size
             have HN := Lib.hid (HN.out.trans (hbx.mono HN.out.size))
             have HA := Lib.hid (HA.out.below hbx)
             have HC := Lib.hid (HC.out.below hbx)
             have hx9 := (hbx.block X9 l9).trans hx9
             have l9 := Nat.lt_of_lt_of_le l9 hbx.size
             clear hbx
             go_wp2_with fail
             refine tailL_mk HN.out ?_
             repeat (refine tree_head rfl ?_; (show wpQuiet _ _ _ _ (_ :: _) _; go_big_quiet_step (fail)); refine wpQuiet_nil ?_)
             refine tree_one rfl ?_
             have c90 := cell_of_row _ _ 0 _ _ _ hx9
             have f90 := frozen_of_row _ _ 0 _ _ hx9
             have c91 := cell_of_row _ _ 1 _ _ _ hx9
             have f91 := frozen_of_row _ _ 1 _ _ hx9
             have c92 := cell_of_row _ _ 2 _ _ _ hx9
             have f92 := frozen_of_row _ _ 2 _ _ hx9
             have c93 := cell_of_row _ _ 3 _ _ _ hx9
             have f93 := frozen_of_row _ _ 3 _ _ hx9
             simp only [List.getElem?_toArray, List.getElem?_cons_zero, List.getElem?_cons_succ] at c90 c91 c92 c93
             go_wp2_with fail
             have HN := Lib.hid (show Below wg.heap.size wg ((((wx16.setCell ⟨X9, 0, none⟩ (.int .i64 sD)).setCell ⟨X9, 1, none⟩ (.slice aD nD cD)).setCell ⟨X9, 2, none⟩ (.int .i64 tD)).setCell ⟨X9, 3, none⟩ (.slice bD mD dD)) from Below.setCell (Below.setCell (Below.setCell (Below.setCell (HN.out) hNX _) hNX _) hNX _) hNX _)
             have hxo := hx9
             have hx9 : ((((wx16.setCell ⟨X9, 0, none⟩ (.int .i64 sD)).setCell ⟨X9, 1, none⟩ (.slice aD nD cD)).setCell ⟨X9, 2, none⟩ (.int .i64 tD)).setCell ⟨X9, 3, none⟩ (.slice bD mD dD)).heap[X9]? = some (.cells #[.int .i64 sD, .slice aD nD cD, .int .i64 tD, .slice bD mD dD] 66) := blk_set (blk_set (blk_set (blk_set (hx9) 0 (.int .i64 sD)) 1 (.slice aD nD cD)) 2 (.int .i64 tD)) 3 (.slice bD mD dD)
             refine tailL_mk HN.out ?_
             repeat (refine tree_head rfl ?_; (show wpQuiet _ _ _ _ (_ :: _) _; go_big_quiet_step (fail)); refine wpQuiet_nil ?_)
             refine tree_done ?_
             go_wp2_with fail
             have HR := Lib.hid (RB.put2 (X := X9) HS.out (fun b hb => by
              obtain ⟨hX9, hsz9⟩ := HX9.out
              (try simp only [World.size_drew] at *)
              omega))
             go_meet
             case rel => exact ⟨X9, sD, tD, aD, bD, nD, cD, mD, dD, rfl, Lib.hid hx9, HR, HN⟩
           case rest =>
            obtain ⟨wy, rfl⟩ : ∃ w', w' = wc := ⟨wc, rfl⟩
            obtain ⟨X14, s9, t9, a9, b9, n9, c9, m9, d9, rfl, K14, HR, HQ7⟩ := hcut
            have hb7 := HQ7.out
            have hc0 := (cellB hb7 bb (ob + k * 2) lbb).trans hc0
            have hc1 := (cellB hb7 bb (ob + k * 2 + 1) lbb).trans hc1
            have lbb := Nat.lt_of_lt_of_le lbb hb7.size
            have HE := Lib.hid (HE.out.below hb7)
            have K13 := Lib.hid (K13.out.below hb7)
            have K11 := Lib.hid (K11.out.below hb7)
            have HU := Lib.hid (HU.out.below hb7)
            have HBx := Lib.hid (HBx.out.trans (hb7.mono HBx.out.size))
            clear q0 q1 q2 u0 u1 u2 u3 u4 u5 p0 p1 p2 l3 l4 l5
            clear x0' x1' l9' cp cq lbc hb7
            have K3 := Lib.hid (J3.out.below HBx.out)
            have K4 := Lib.hid (J4.out.below HBx.out)
            have K5 := Lib.hid (J5.out.below HBx.out)
            have K9 := Lib.hid (J9.out.below HBx.out)
            obtain ⟨q0, q1, q2, _⟩ := blkc3 K3.out
            obtain ⟨u0, u1, u2, u3, u4, u5, _⟩ := blkc6 K4.out
            obtain ⟨p0, p1, p2, _⟩ := blkc3 K5.out
            have l3 := K3.out.lt
            have l4 := K4.out.lt
            have l5 := K5.out.lt
            obtain ⟨x0', x1', l9'⟩ := blkc2 K9.out
            have cp := (cellB HBx.out bc (oc + k * 2) HBC.out).trans HCP2.out.1
            have cq := (cellB HBx.out bc (oc + k * 2 + 1) HBC.out).trans HCP2.out.2
            have lbc := Nat.lt_of_lt_of_le HBC.out HBx.out.size
            clear HQ7
            obtain ⟨z0, z1, z2, z3, l13⟩ := blkc4 K13.out
            obtain ⟨v0', v1', v2', v3', l14⟩ := blkc4 K14.out
            go_wp2_with fail
            have HN := Lib.hid (Below.refl wy.heap.size wy).drew
            refine wp_region_laterT (B := wy.heap.size) (.head 0 (.head 1 (.head 2 (.head 3 (.head 4 (.head 5 (.head 6 (.head 7 (.one 8 (.one 9 (.one 10 (.head 11 .done)))))))))))) (by kernel_rfl) (by kernel_rfl) ?_
            repeat (refine tree_head rfl ?_; (show wpQuiet _ _ _ _ (_ :: _) _; go_big_quiet_step (fail)); refine wpQuiet_nil ?_)
            have HR := Lib.hid (HR.out.below (Below.refl _ _).drew)
            have HE := Lib.hid (HE.out.below (Below.refl _ _).drew)
            have HU := Lib.hid (HU.out.below (Below.refl _ _).drew)
            have K11 := Lib.hid (K11.out.below (Below.refl _ _).drew)
            refine tree_one rfl ?_
            go_wp2_with fail
            refine (rb_int rr _ (by omega) (by omega)).mono ?_
            rintro ex wx1 ⟨sA, aA, nA, cA, tA, bA, mA, dA, rfl, hbx, hA, hAs⟩
            have HA := Lib.hid hA
            have HS := Lib.hid hAs.out.here
            clear hA hAs
            have hzx := hbx.size
            have HN := Lib.hid (HN.out.trans (hbx.mono HN.out.size))
            have HR := Lib.hid (HR.out.below hbx)
            have HE := Lib.hid (HE.out.below hbx)
            have HU := Lib.hid (HU.out.below hbx)
            have K11 := Lib.hid (K11.out.below hbx)
            clear hbx
            go_wp2_with fail
            refine tailL_mk HN.out ?_
            repeat (refine tree_head rfl ?_; (show wpQuiet _ _ _ _ (_ :: _) _; go_big_quiet_step (fail)); refine wpQuiet_nil ?_)
            refine tree_one rfl ?_
            go_wp2_with fail
            refine (rb_mul _ _ _ _ 2 1 _ HE.out.rb HA.out HS3.out.2.2 (sz_int (by omega) (by omega)) (by omega)).mono ?_
            rintro ex wx2 ⟨sC, aC, nC, cC, tC, bC, mC, dC, rfl, hbx, hC, hCs⟩
            have HC := Lib.hid hC
            have HS := Lib.hid hCs.out.here
            clear hC hCs
            rw [← HDY.out] at HC
            have hzx := hbx.size
            have HN := Lib.hid (HN.out.trans (hbx.mono HN.out.size))
            have HR := Lib.hid (HR.out.below hbx)
            have HE := Lib.hid (HE.out.below hbx)
            have HU := Lib.hid (HU.out.below hbx)
            have K11 := Lib.hid (K11.out.below hbx)
            have HA := Lib.hid (HA.out.below hbx)
            clear hbx
            go_wp2_with fail
            refine tailL_mk HN.out ?_
            repeat (refine tree_head rfl ?_; (show wpQuiet _ _ _ _ (_ :: _) _; go_big_quiet_step (fail)); refine wpQuiet_nil ?_)
            refine tree_one rfl ?_
            go_wp2_with fail
            refine (rb_cmp _ _ _ _ 4 4 _ HR.out HC.out (sz_sub (K := 1) (M := 2) (sz_int (by omega) (by omega)) HSZ.out.1) (sz_sub (K := 1) (M := 2) (sz_int (by omega) (by omega)) HSZ.out.1) (by omega)).mono ?_
            rintro ex wx3 ⟨rfl, hbx⟩
            rw [(cmp_sign _ _).1.2 rfl]
            have hzx := hbx.size
            have HN := Lib.hid (HN.out.trans (hbx.mono HN.out.size))
            have HR := Lib.hid (HR.out.below hbx)
            have HE := Lib.hid (HE.out.below hbx)
            have HU := Lib.hid (HU.out.below hbx)
            have K11 := Lib.hid (K11.out.below hbx)
            have HA := Lib.hid (HA.out.below hbx)
            have HC := Lib.hid (HC.out.below hbx)
            clear hbx
            go_wp2_with fail
            refine tailL_mk HN.out ?_
            repeat (refine tree_head rfl ?_; (show wpQuiet _ _ _ _ (_ :: _) _; go_big_quiet_step (fail)); refine wpQuiet_nil ?_)
            refine tree_done ?_
            go_wp2_with fail
            go_roundw
            case rel => exact ⟨k + 1, ⟨sS, aS, nS, cS, tS, bS, mS, dS⟩, by go_num, by omega, K11, HU, Lib.hid (HBx.out.trans (HN.out.mono HBx.out.size))⟩
            case measure => simp [intOf]; omega
         ·obtain rfl : nc = k := by omega
          have K5 := Lib.hid (J5.out.below HBx.out)
          obtain ⟨p0, p1, p2, l5⟩ := blkc3 K5.out
          obtain ⟨y0, y1, y2, y3, l11⟩ := blkc4 K11.out
          go_wp2_with fail
          have HN := Lib.hid (Below.refl wr.heap.size wr).drew
          refine wp_region_laterT (B := wr.heap.size) (.head 0 (.head 1 (.head 2 (.one 3 (.one 4 (.head 5 (.head 6 .done))))))) (by kernel_rfl) (by kernel_rfl) ?_
          repeat (refine tree_head rfl ?_; (show wpQuiet _ _ _ _ (_ :: _) _; go_big_quiet_step (fail)); refine wpQuiet_nil ?_)
          have HU := Lib.hid (HU.out.below (Below.refl _ _).drew)
          refine tree_one rfl ?_
          go_wp2_with fail
          refine (rb_int x2 _ (by omega) (by omega)).mono ?_
          rintro ex wx1 ⟨sA, aA, nA, cA, tA, bA, mA, dA, rfl, hbx, hA, hAs⟩
          have HA := Lib.hid hA
          have HS := Lib.hid hAs.out.here
          clear hA hAs
          have hzx := hbx.size
          have HN := Lib.hid (HN.out.trans (hbx.mono HN.out.size))
          have HU := Lib.hid (HU.out.below hbx)
          clear hbx
          go_wp2_with fail
          refine tailL_mk HN.out ?_
          repeat (refine tree_head rfl ?_; (show wpQuiet _ _ _ _ (_ :: _) _; go_big_quiet_step (fail)); refine wpQuiet_nil ?_)
          refine tree_one rfl ?_
          go_wp2_with fail
          refine (rb_cmp _ _ _ _ 2 1 _ HU.out.rb HA.out HSN.out (sz_int (by omega) (by omega)) (by omega)).mono ?_
          rintro ex wx2 ⟨rfl, hbx⟩
          rw [(cmp_sign _ _).1.2 HCA.out]
          have hzx := hbx.size
          have HN := Lib.hid (HN.out.trans (hbx.mono HN.out.size))
          have HU := Lib.hid (HU.out.below hbx)
          have HA := Lib.hid (HA.out.below hbx)
          clear hbx
          go_wp2_with fail
          refine tailL_mk HN.out ?_
          repeat (refine tree_head rfl ?_; (show wpQuiet _ _ _ _ (_ :: _) _; go_big_quiet_step (fail)); refine wpQuiet_nil ?_)
          refine tree_done ?_
          go_wp2_with fail
          go_ret
          exact ⟨ret_bool (by simp), HB12.out.trans ((HBx.out.trans (HN.out.mono HBx.out.size)).mono HB12.out.size)⟩
       ·have hct := HBAD.out hc
        obtain rfl : nc = 0 := by
         have h := HCR.out
         rw [hct] at h
         have := h.1
         simp [pcells] at this
         omega
        have e1 := bne_iff_ne.2 hc
        clear hct hc HBAD HK HEE
        go_wp2
        go_ret
        exact ⟨ret_bool (by simp), HB.out⟩
    ·have e1 := bne_iff_ne.2 hA
     clear hA HL
     go_wp2
     go_ret
     exact ⟨ret_bool (by simp), HB.out⟩
   ·have e1 := bne_iff_ne.2 hS
    clear hS HL
    go_wp2
    go_ret
    exact ⟨ret_bool (by simp), HB.out⟩
  ·have e1 := bne_iff_ne.2 hO
   clear hO HL
   go_wp2
   go_ret
   exact ⟨ret_bool (by simp), HB.out⟩
 ·have e81 : (decide (nb ≤ 8) && decide (ng ≤ 32)) = false := by
    rw [Bool.eq_false_iff]
    intro h
    rw [Bool.and_eq_true, decide_eq_true_eq, decide_eq_true_eq] at h
    exact hfew h
  rw [e81]
  clear e81 hfew
  go_wp2
  go_ret
  exact ⟨rfl, HB.out⟩
end Go.Proofs.YtidboecjllaofaaGreat
