import Derived.Test.YtidboecjllaofaaGreatBTAwk
import Derived.Test.YtidboecjllaofaaGreatBTEx4
import Derived.Test.YtidboecjllaofaaGreatBTRefG
/- The law TapBreaks: breaks, safe states and safe changes are as specified. -/
namespace Go.Proofs.YtidboecjllaofaaGreat
open Go.RowKit Go.Shelf
set_option linter.unusedVariables false
set_option linter.unusedSimpArgs false
theorem fb1 {x : Int} {l : List Int} (h : x ≠ 0) : firstErr (x :: l) = x := by show (if x = 0 then _ else x) = x; rw [if_neg h]
theorem fb0 {l : List Int} : firstErr (0 :: l) = firstErr l := by show (if (0 : Int) = 0 then _ else _) = _; rw [if_pos rfl]
structure BrkL (m : Mac) (l : Lim) (s i load : Int) (E F G : Int) (B : (Int × Int) × (Int × Int)) : Prop where
 a : opnE m l ≠ 0 → E = opnE m l ∧ F = opnE m l ∧ G = opnE m l ∧ B = ((0, 0), (0, 0))
 b : opnE m l = 0 → staE m.br.length s ≠ 0 → E = staE m.br.length s ∧ F = staE m.br.length s ∧ G = staE m.br.length s ∧ B = ((0, 0), (0, 0))
 ok : opnE m l = 0 → staE m.br.length s = 0 → ∃ n : Nat, s = (n : Int) ∧ n < 2 ^ m.br.length ∧ MacV m ∧ limE l = 0 ∧ F = safE m l n ∧ (conE m.br.length i ≠ 0 → E = conE m.br.length i ∧ G = conE m.br.length i ∧ B = ((0, 0), (0, 0)))
  ∧ (conE m.br.length i = 0 → ∃ k : Nat, i = (k : Int) ∧ k < m.br.length ∧ G = chgE m l n k ∧ (loaE load ≠ 0 → E = loaE load ∧ B = ((0, 0), (0, 0))) ∧ (loaE load = 0 → -1000 ≤ load ∧ load ≤ 1000 ∧ E = rbrE m n k ∧ B = rbrV m l n k load))
theorem brkLaw (m : Mac) (l : Lim) (s i load : Int) : BrkL m l s i load (batE m l s i load) (chsE m l s) (chmE m l s i) (batV m l s i load) := by
 refine ⟨fun h => ?_, fun h h2 => ?_, fun h h2 => ?_⟩
 ·have z1 : batZ m l s i load = opnE m l := by unfold batZ; exact fb1 h
  have z2 : chsZ m l s = opnE m l := by unfold chsZ; exact fb1 h
  have z3 : chmZ m l s i = opnE m l := by unfold chmZ; exact fb1 h
  unfold batE batV chsE chmE
  rw [z1, z2, z3, if_pos h, if_pos h, if_pos h, if_pos h]
  exact ⟨rfl, rfl, rfl, rfl⟩
 ·have z1 : batZ m l s i load = staE m.br.length s := by unfold batZ; rw [h, fb0]; exact fb1 h2
  have z2 : chsZ m l s = staE m.br.length s := by unfold chsZ; rw [h, fb0]; exact fb1 h2
  have z3 : chmZ m l s i = staE m.br.length s := by unfold chmZ; rw [h, fb0]; exact fb1 h2
  unfold batE batV chsE chmE
  rw [z1, z2, z3, if_pos h2, if_pos h2, if_pos h2, if_pos h2]
  exact ⟨rfl, rfl, rfl, rfl⟩
 ·obtain ⟨hm, hl⟩ := opnE_zero h
  have hs := staE_zero.1 h2
  obtain ⟨n, rfl⟩ : ∃ n : Nat, s = n := ⟨s.toNat, by omega⟩
  have hn : n < 2 ^ m.br.length := by
   have : ((2 ^ m.br.length : Nat) : Int) = (2 : Int) ^ m.br.length := by push_cast; rfl
   omega
  refine ⟨n, rfl, hn, hm, hl, ?_, fun h3 => ?_, fun h3 => ?_⟩
  ·have z2 : chsZ m l (n : Int) = 0 := by unfold chsZ; rw [h, fb0, h2, fb0]; rfl
   unfold chsE
   rw [z2, if_neg (by decide), Int.toNat_natCast]
  ·have z1 : batZ m l (n : Int) i load = conE m.br.length i := by unfold batZ; rw [h, fb0, h2, fb0]; exact fb1 h3
   have z3 : chmZ m l (n : Int) i = conE m.br.length i := by unfold chmZ; rw [h, fb0, h2, fb0]; exact fb1 h3
   unfold batE batV chmE
   rw [z1, z3, if_pos h3, if_pos h3, if_pos h3]
   exact ⟨rfl, rfl, rfl⟩
  ·have hc := conE_zero.1 h3
   obtain ⟨k, rfl⟩ : ∃ k : Nat, i = k := ⟨i.toNat, by omega⟩
   have z3 : chmZ m l (n : Int) (k : Int) = 0 := by unfold chmZ; rw [h, fb0, h2, fb0, h3, fb0]; rfl
   refine ⟨k, rfl, by omega, ?_, fun h4 => ?_, fun h4 => ?_⟩
   ·unfold chmE
    rw [z3, if_neg (by decide), Int.toNat_natCast, Int.toNat_natCast]
   ·have z1 : batZ m l (n : Int) (k : Int) load = loaE load := by unfold batZ; rw [h, fb0, h2, fb0, h3, fb0]; exact fb1 h4
    unfold batE batV
    rw [z1, if_pos h4, if_pos h4]
    exact ⟨rfl, rfl⟩
   ·have z1 : batZ m l (n : Int) (k : Int) load = 0 := by unfold batZ; rw [h, fb0, h2, fb0, h3, fb0, h4, fb0]; rfl
    have hd := loaE_zero.1 h4
    unfold batE batV
    rw [z1, if_neg (by decide), if_neg (by decide), Int.toNat_natCast, Int.toNat_natCast]
    exact ⟨hd.1, hd.2, rfl, rfl⟩
set_option maxHeartbeats 4000000 in
set_option maxRecDepth 100000 in
theorem brk_law (m : Mac) (l : Lim) (x0 x1 x2 : Int) (ab ag : Option Addr) (nb cb ng cg : Nat) (w : World) (hb : BrR w ab nb m.br) (hg : GrR w ag ng m.gs) :
    Calls Tryz.prog 8 #[.agg #[.slice ab nb cb, .int .i64 m.st, .slice ag ng cg], .agg #[.int .i64 l.volt, .int .i64 l.lo, .int .i64 l.hi, .int .i64 l.circ, .int .i64 l.brk, .int .i64 l.ret], .agg #[.int .i64 x0, .int .i64 x1, .int .i64 x2]] w fun e' w' => e' = .returned (.bool true) ∧ Below w.heap.size w w' := by
 have HFW := Lib.hid (fun (W : World) => few_any m.st ab ag nb cb ng cg W hb.small hg.small)
 have HCP0 := Lib.hid (fun (h1 : nb ≤ 8) (h2 : ng ≤ 32) (W : World) (hbw : Below w.heap.size w W) => copyM_any m ab ag nb cb ng cg W (hb.below hbw) (hg.below hbw) (by omega) (by omega))
 have HBA0 := Lib.hid (fun (h8 : nb ≤ 8) (a1 a2 : Option Addr) (c1 c2 : Nat) (W : World) (h1 : BrR W a1 nb m.br) (h2 : GrR W a2 ng m.gs) => breakAt_any m l x0 x1 x2 a1 a2 nb c1 ng c2 W h1 h2 h8)
 have HCS0 := Lib.hid (fun (h8 : nb ≤ 8) (a1 a2 : Option Addr) (c1 c2 : Nat) (W : World) (h1 : BrR W a1 nb m.br) (h2 : GrR W a2 ng m.gs) => checkState_any m l x0 a1 a2 nb c1 ng c2 W h1 h2 h8)
 have HCM0 := Lib.hid (fun (h8 : nb ≤ 8) (a1 a2 : Option Addr) (c1 c2 : Nat) (W : World) (h1 : BrR W a1 nb m.br) (h2 : GrR W a2 ng m.gs) => checkMove_any m l x0 x1 a1 a2 nb c1 ng c2 W h1 h2 h8)
 have HBE := Lib.hid (fun (W : World) (hbw : Below w.heap.size w W) => show Calls Tryz.prog 22 #[.agg #[.slice ab nb cb, .int .i64 m.st, .slice ag ng cg], .agg #[.int .i64 l.volt, .int .i64 l.lo, .int .i64 l.hi, .int .i64 l.circ, .int .i64 l.brk, .int .i64 l.ret]] W (fun e' w' => e' = .returned (.int .i64 (opnE m l)) ∧ Below W.heap.size W w') from bothErr_any m l ab ag nb cb ng cg W (hb.below hbw) (hg.below hbw))
 have HSE0 := Lib.hid (fun (h8 : nb ≤ 8) (W : World) => rStaE_any m.st nb cb ng cg ab ag x0 W h8)
 have HCO0 := Lib.hid (fun (h8 : nb ≤ 8) (W : World) => rConE_any m.st nb cb ng cg ab ag x1 W (by omega))
 have HLE := Lib.hid (fun (W : World) => rLoaE_any x2 W)
 have hlen := hb.len
 have HRS := Lib.hid (fun (hm : MacV m) (hl : limE l = 0) (n : Nat) (hn : n < 2 ^ nb) (W : World) (hbw : Below w.heap.size w W) => rcheckState_any m l n ab ag nb cb ng cg W hm hl (hb.below hbw) hn)
 have HRM := Lib.hid (fun (hm : MacV m) (hl : limE l = 0) (n : Nat) (hn : n < 2 ^ nb) (k : Nat) (hk : k < nb) (W : World) (hbw : Below w.heap.size w W) => rcheckMove_any m l n k ab ag nb cb ng cg W hm hl (hb.below hbw) (hg.below hbw) hn hk)
 have HRB := Lib.hid (fun (hm : MacV m) (hl : limE l = 0) (n : Nat) (hn : n < 2 ^ nb) (k : Nat) (hk : k < nb) (hd : -1000 ≤ x2 ∧ x2 ≤ 1000) (W : World) (hbw : Below w.heap.size w W) => rbreak_any m l n k x2 ab ag nb cb ng cg W hm (limE_zero.1 hl).1 hd (hb.below hbw) hn hk)
 have HL := Lib.hid (brkLaw m l x0 x1 x2)
 obtain ⟨OE, hOE⟩ : ∃ O, O = opnE m l := ⟨_, rfl⟩
 rw [← hOE] at HBE
 have HOE := Lib.hid hOE
 obtain ⟨SE, hSE⟩ : ∃ O, O = staE nb x0 := ⟨_, rfl⟩
 rw [← hSE] at HSE0
 have HSQ := Lib.hid (show SE = staE m.br.length x0 by rw [hSE, hlen])
 obtain ⟨CE, hCE⟩ : ∃ O, O = conE nb x1 := ⟨_, rfl⟩
 rw [← hCE] at HCO0
 have HCQ := Lib.hid (show CE = conE m.br.length x1 by rw [hCE, hlen])
 obtain ⟨OL, hOL⟩ : ∃ O, O = loaE x2 := ⟨_, rfl⟩
 rw [← hOL] at HLE
 have HLQ := Lib.hid hOL
 clear hOE hSE hOL hCE
 have HLN := Lib.hid hlen
 generalize batV m l x0 x1 x2 = B at *
 generalize batE m l x0 x1 x2 = E at *
 generalize chsE m l x0 = F at *
 generalize chmE m l x0 x1 = G at *
 obtain ⟨⟨B1, B2⟩, B3, B4⟩ := B
 obtain ⟨st, hst⟩ : ∃ x, x = m.st := ⟨_, rfl⟩
 rw [← hst] at HFW HCP0 HBA0 HCS0 HCM0 HBE HSE0 HCO0 HRS HRM HRB ⊢
 clear hb hg hst hlen
 obtain ⟨vo, lo, hi', ci, br, re⟩ := l
 simp only at HBA0 HCS0 HCM0 HBE HRS HRM HRB ⊢
 generalize hLM : (⟨vo, lo, hi', ci, br, re⟩ : Lim) = L at *
 have HLM := Lib.hid hLM
 clear hLM
 go_enter Tryz.func8, Tryz.ntmps8
 go_wp2_with fail
 obtain ⟨w1, hW⟩ : ∃ w1, w1 = (((w.alloc (Obj.cells #[.slice ab nb cb, .int .i64 st, .slice ag ng cg] 45)).alloc (Obj.cells #[.int .i64 vo, .int .i64 lo, .int .i64 hi', .int .i64 ci, .int .i64 br, .int .i64 re] 47)).alloc (Obj.cells #[.int .i64 x0, .int .i64 x1, .int .i64 x2] 49)) := ⟨_, rfl⟩
 obtain ⟨hb1, k3, k4, k5⟩ := alc3 w (Obj.cells #[.slice ab nb cb, .int .i64 st, .slice ag ng cg] 45) (Obj.cells #[.int .i64 vo, .int .i64 lo, .int .i64 hi', .int .i64 ci, .int .i64 br, .int .i64 re] 47) (Obj.cells #[.int .i64 x0, .int .i64 x1, .int .i64 x2] 49)
 rw [← hW]
 rw [← hW] at hb1 k3 k4 k5
 obtain ⟨X3, hX3⟩ : ∃ X, X = w.heap.size := ⟨_, rfl⟩
 obtain ⟨X4, hX4⟩ : ∃ X, X = w.heap.size + 1 := ⟨_, rfl⟩
 obtain ⟨X5, hX5⟩ : ∃ X, X = w.heap.size + 1 + 1 := ⟨_, rfl⟩
 rw [← hX5] at k5
 rw [← hX4] at k4
 have k3 : BlkR w1 X3 (.cells #[.slice ab nb cb, .int .i64 st, .slice ag ng cg] 45) := by rw [hX3]; exact k3
 simp only [← hX5]
 simp only [← hX4]
 simp only [← hX3]
 refine (awake_any w1).mono ?_
 rintro e2 w2 ⟨rfl, hb2⟩
 have K3 := Lib.hid (k3.below hb2)
 have K4 := Lib.hid (k4.below hb2)
 have K5 := Lib.hid (k5.below hb2)
 have HB := Lib.hid (hb1.trans (hb2.mono hb1.size))
 clear hW hX3 hX4 hX5 hb1 hb2 k3 k4 k5
 obtain ⟨q0, q1, q2, _⟩ := blkc3 K3.out
 obtain ⟨u0, u1, u2, u3, u4, u5, _⟩ := blkc6 K4.out
 obtain ⟨p0, p1, p2, _⟩ := blkc3 K5.out
 have l3 := K3.out.lt
 have l4 := K4.out.lt
 have l5 := K5.out.lt
 go_wp2_with fail
 refine (HFW.out _).mono ?_
 rintro e3 w3 ⟨rfl, hb3⟩
 have K3 := Lib.hid (K3.out.below hb3)
 have K4 := Lib.hid (K4.out.below hb3)
 have K5 := Lib.hid (K5.out.below hb3)
 have HB := Lib.hid (HB.out.trans (hb3.mono HB.out.size))
 clear q0 q1 q2 u0 u1 u2 u3 u4 u5 p0 p1 p2 l3 l4 l5
 clear hb3 HFW
 by_cases hfew : nb ≤ 8 ∧ ng ≤ 32
 ·obtain ⟨h8, h32⟩ := hfew
  have HCP := Lib.hid (HCP0.out h8 h32)
  have HBA := Lib.hid (HBA0.out h8)
  have HCS := Lib.hid (HCS0.out h8)
  have HCM := Lib.hid (HCM0.out h8)
  have HSE := Lib.hid (HSE0.out h8)
  have HCO := Lib.hid (HCO0.out h8)
  have e81 : (decide (nb ≤ 8) && decide (ng ≤ 32)) = true := by rw [decide_eq_true h8, decide_eq_true h32]; rfl
  rw [e81]
  clear e81 HCP0 HBA0 HCS0 HCM0 HSE0 HCO0 h8 h32
  obtain ⟨q0, q1, q2, _⟩ := blkc3 K3.out
  obtain ⟨u0, u1, u2, u3, u4, u5, _⟩ := blkc6 K4.out
  obtain ⟨p0, p1, p2, _⟩ := blkc3 K5.out
  have l3 := K3.out.lt
  have l4 := K4.out.lt
  have l5 := K5.out.lt
  go_wp2_with fail
  go_cut [7, 8] from 18 to 30 (fun v9 v10 wx => ∃ X9 : Nat, v9 = .pointer (some ⟨X9, 0, none⟩) ∧ v10 = .int .i64 E ∧ Hid (BlkR wx X9 (.cells #[.int .i64 B1, .int .i64 B2, .int .i64 B3, .int .i64 B4] 106)) ∧ Hid (Below w3.heap.size w3 wx))
  case first =>
   have HN := Lib.hid (Below.refl w3.heap.size w3).drew
   refine wp_region_laterT (B := w3.heap.size) (.head 0 (.head 2 (.head 3 (.head 4 (.head 5 (.head 6 (.head 7 (.head 8 (.two 1 (.two 9 (.head 10 (.head 11 (.head 12 (.one 13 (.one 14 (.head 15 .done)))))) 13 (.one 9 (.head 10 (.head 11 (.head 12 (.one 14 (.head 15 .done))))))) 13 (.one 1 (.one 9 (.head 10 (.head 11 (.head 12 (.one 14 (.head 15 .done)))))))))))))))) (by kernel_rfl) (by kernel_rfl) ?_
   repeat (refine tree_head rfl ?_; (show wpQuiet _ _ _ _ (_ :: _) _; go_big_quiet_step (fail)); refine wpQuiet_nil ?_)
   refine tree_two rfl rfl ?_ ?_
   ·go_wp2_with fail
    refine (HCP.out _ (HB.out.trans (HN.out.mono HB.out.size))).mono ?_
    rintro e1 wx1 ⟨a1, p1', a2, p2', rfl, hbx, hbr1, hgr1⟩
    have HBR := Lib.hid hbr1
    have HGR := Lib.hid hgr1
    clear hbr1 hgr1
    have hzx := hbx.size
    have HN := Lib.hid (HN.out.trans (hbx.mono HN.out.size))
    clear hbx
    go_wp2_with fail
    refine tailL_mk HN.out ?_
    repeat (refine tree_head rfl ?_; (show wpQuiet _ _ _ _ (_ :: _) _; go_big_quiet_step (fail)); refine wpQuiet_nil ?_)
    refine tree_two rfl rfl ?_ ?_
    ·go_wp2_with fail
     refine (HBA.out a1 a2 p1' p2' _ HBR.out HGR.out).mono ?_
     rintro e1 wx2 ⟨rfl, hbx⟩
     have hzx := hbx.size
     have HN := Lib.hid (HN.out.trans (hbx.mono HN.out.size))
     have HBR := Lib.hid (HBR.out.below hbx)
     have HGR := Lib.hid (HGR.out.below hbx)
     clear hbx
     go_wp2_with fail
     refine tailL_mk HN.out ?_
     repeat (refine tree_head rfl ?_; (show wpQuiet _ _ _ _ (_ :: _) _; go_big_quiet_step (fail)); refine wpQuiet_nil ?_)
     refine tree_one rfl ?_
     go_wp2_with fail
     obtain ⟨X9, hX9⟩ : ∃ X, X = wx2.heap.size := ⟨_, rfl⟩
     have hNX : w3.heap.size ≤ X9 := by rw [hX9]; exact HN.out.size
     have hx9 : (wx2.alloc (Obj.cells #[.int .i64 0, .int .i64 0, .int .i64 0, .int .i64 0] 106)).heap[X9]? = some (.cells #[.int .i64 0, .int .i64 0, .int .i64 0, .int .i64 0] 106) := by rw [hX9]; exact heap_alloc_new _ _
     have l9 : X9 < (wx2.alloc (Obj.cells #[.int .i64 0, .int .i64 0, .int .i64 0, .int .i64 0] 106)).heap.size := by rw [hX9]; simp
     have hs9 : (wx2.alloc (Obj.cells #[.int .i64 0, .int .i64 0, .int .i64 0, .int .i64 0] 106)).heap.size = wx2.heap.size + 1 := by simp
     have hbx : Below wx2.heap.size wx2 (wx2.alloc (Obj.cells #[.int .i64 0, .int .i64 0, .int .i64 0, .int .i64 0] 106)) := by (repeat' first|(with_reducible first|exact bw1|assumption|refine bw2 ?_ _|refine bw3 ?_ ?_ _|refine bw4 ?_|refine bw5 ?_ ?_ _|refine bw6 (by assumption) ?_ ?_|exact And.left (by assumption))|go_size)
     try simp only [← hX9]
     generalize (wx2.alloc (Obj.cells #[.int .i64 0, .int .i64 0, .int .i64 0, .int .i64 0] 106)) = wx3 at *
     have HX9 := Lib.hid (And.intro hX9 hs9)
     have HN := Lib.hid (HN.out.trans (hbx.mono HN.out.size))
     have HBR := Lib.hid (HBR.out.below hbx)
     have HGR := Lib.hid (HGR.out.below hbx)
     clear hbx hX9 hs9
     refine tailL_mk HN.out ?_
     repeat (refine tree_head rfl ?_; (show wpQuiet _ _ _ _ (_ :: _) _; go_big_quiet_step (fail)); refine wpQuiet_nil ?_)
     refine tree_one rfl ?_
     have c90 := cell_of_row _ _ 0 _ _ _ hx9
     have f90 := frozen_of_row _ _ 0 _ _ hx9
     have c91 := cell_of_row _ _ 1 _ _ _ hx9
     have f91 := frozen_of_row _ _ 1 _ _ hx9
     have c92 := cell_of_row _ _ 2 _ _ _ hx9
     have f92 := frozen_of_row _ _ 2 _ _ hx9
     have c93 := cell_of_row _ _ 3 _ _ _ hx9
     have f93 := frozen_of_row _ _ 3 _ _ hx9
     simp only [List.getElem?_toArray, List.getElem?_cons_zero, List.getElem?_cons_succ] at c90 c91 c92 c93
     go_wp2_with fail
     have HN := Lib.hid (show Below w3.heap.size w3 ((((wx3.setCell ⟨X9, 0, none⟩ (.int .i64 B1)).setCell ⟨X9, 1, none⟩ (.int .i64 B2)).setCell ⟨X9, 2, none⟩ (.int .i64 B3)).setCell ⟨X9, 3, none⟩ (.int .i64 B4)) from Below.setCell (Below.setCell (Below.setCell (Below.setCell (HN.out) hNX _) hNX _) hNX _) hNX _)
     have hxo := hx9
     have hx9 : ((((wx3.setCell ⟨X9, 0, none⟩ (.int .i64 B1)).setCell ⟨X9, 1, none⟩ (.int .i64 B2)).setCell ⟨X9, 2, none⟩ (.int .i64 B3)).setCell ⟨X9, 3, none⟩ (.int .i64 B4)).heap[X9]? = some (.cells #[.int .i64 B1, .int .i64 B2, .int .i64 B3, .int .i64 B4] 106) := blk_set (blk_set (blk_set (blk_set (hx9) 0 (.int .i64 B1)) 1 (.int .i64 B2)) 2 (.int .i64 B3)) 3 (.int .i64 B4)
     refine tailL_mk HN.out ?_
     repeat (refine tree_head rfl ?_; (show wpQuiet _ _ _ _ (_ :: _) _; go_big_quiet_step (fail)); refine wpQuiet_nil ?_)
     refine tree_done ?_
     go_wp2_with fail
     go_meet
     case rel => exact ⟨X9, rfl, rfl, Lib.hid hx9, HN⟩
    ·go_wp2_with fail
     obtain ⟨X9, hX9⟩ : ∃ X, X = wx1.heap.size := ⟨_, rfl⟩
     have hNX : w3.heap.size ≤ X9 := by rw [hX9]; exact HN.out.size
     have hx9 : (wx1.alloc (Obj.cells #[.int .i64 0, .int .i64 0, .int .i64 0, .int .i64 0] 106)).heap[X9]? = some (.cells #[.int .i64 0, .int .i64 0, .int .i64 0, .int .i64 0] 106) := by rw [hX9]; exact heap_alloc_new _ _
     have l9 : X9 < (wx1.alloc (Obj.cells #[.int .i64 0, .int .i64 0, .int .i64 0, .int .i64 0] 106)).heap.size := by rw [hX9]; simp
     have hs9 : (wx1.alloc (Obj.cells #[.int .i64 0, .int .i64 0, .int .i64 0, .int .i64 0] 106)).heap.size = wx1.heap.size + 1 := by simp
     have hbx : Below wx1.heap.size wx1 (wx1.alloc (Obj.cells #[.int .i64 0, .int .i64 0, .int .i64 0, .int .i64 0] 106)) := by (repeat' first|(with_reducible first|exact bw1|assumption|refine bw2 ?_ _|refine bw3 ?_ ?_ _|refine bw4 ?_|refine bw5 ?_ ?_ _|refine bw6 (by assumption) ?_ ?_|exact And.left (by assumption))|go_size)
     try simp only [← hX9]
     generalize (wx1.alloc (Obj.cells #[.int .i64 0, .int .i64 0, .int .i64 0, .int .i64 0] 106)) = wx5 at *
     have HX9 := Lib.hid (And.intro hX9 hs9)
     have HN := Lib.hid (HN.out.trans (hbx.mono HN.out.size))
     have HBR := Lib.hid (HBR.out.below hbx)
     have HGR := Lib.hid (HGR.out.below hbx)
     clear hbx hX9 hs9
     refine tailL_mk HN.out ?_
     repeat (refine tree_head rfl ?_; (show wpQuiet _ _ _ _ (_ :: _) _; go_big_quiet_step (fail)); refine wpQuiet_nil ?_)
     refine tree_one rfl ?_
     go_wp2_with fail
     refine (HBA.out a1 a2 p1' p2' _ HBR.out HGR.out).mono ?_
     rintro e1 wx6 ⟨rfl, hbx⟩
     have hzx := hbx.size
     have HN := Lib.hid (HN.out.trans (hbx.mono HN.out.size))
     have HBR := Lib.hid (HBR.out.below hbx)
     have HGR := Lib.hid (HGR.out.below hbx)
     have hx9 := (hbx.block X9 l9).trans hx9
     have l9 := Nat.lt_of_lt_of_le l9 hbx.size
     clear hbx
     go_wp2_with fail
     refine tailL_mk HN.out ?_
     repeat (refine tree_head rfl ?_; (show wpQuiet _ _ _ _ (_ :: _) _; go_big_quiet_step (fail)); refine wpQuiet_nil ?_)
     refine tree_one rfl ?_
     have c90 := cell_of_row _ _ 0 _ _ _ hx9
     have f90 := frozen_of_row _ _ 0 _ _ hx9
     have c91 := cell_of_row _ _ 1 _ _ _ hx9
     have f91 := frozen_of_row _ _ 1 _ _ hx9
     have c92 := cell_of_row _ _ 2 _ _ _ hx9
     have f92 := frozen_of_row _ _ 2 _ _ hx9
     have c93 := cell_of_row _ _ 3 _ _ _ hx9
     have f93 := frozen_of_row _ _ 3 _ _ hx9
     simp only [List.getElem?_toArray, List.getElem?_cons_zero, List.getElem?_cons_succ] at c90 c91 c92 c93
     go_wp2_with fail
     have HN := Lib.hid (show Below w3.heap.size w3 ((((wx6.setCell ⟨X9, 0, none⟩ (.int .i64 B1)).setCell ⟨X9, 1, none⟩ (.int .i64 B2)).setCell ⟨X9, 2, none⟩ (.int .i64 B3)).setCell ⟨X9, 3, none⟩ (.int .i64 B4)) from Below.setCell (Below.setCell (Below.setCell (Below.setCell (HN.out) hNX _) hNX _) hNX _) hNX _)
     have hxo := hx9
     have hx9 : ((((wx6.setCell ⟨X9, 0, none⟩ (.int .i64 B1)).setCell ⟨X9, 1, none⟩ (.int .i64 B2)).setCell ⟨X9, 2, none⟩ (.int .i64 B3)).setCell ⟨X9, 3, none⟩ (.int .i64 B4)).heap[X9]? = some (.cells #[.int .i64 B1, .int .i64 B2, .int .i64 B3, .int .i64 B4] 106) := blk_set (blk_set (blk_set (blk_set (hx9) 0 (.int .i64 B1)) 1 (.int .i64 B2)) 2 (.int .i64 B3)) 3 (.int .i64 B4)
     refine tailL_mk HN.out ?_
     repeat (refine tree_head rfl ?_; (show wpQuiet _ _ _ _ (_ :: _) _; go_big_quiet_step (fail)); refine wpQuiet_nil ?_)
     refine tree_done ?_
     go_wp2_with fail
     go_meet
     case rel => exact ⟨X9, rfl, rfl, Lib.hid hx9, HN⟩
   ·go_wp2_with fail
    obtain ⟨X9, hX9⟩ : ∃ X, X = w3.heap.size := ⟨_, rfl⟩
    have hNX : w3.heap.size ≤ X9 := by rw [hX9]; exact HN.out.size
    have hx9 : (w3.alloc (Obj.cells #[.int .i64 0, .int .i64 0, .int .i64 0, .int .i64 0] 106)).drew.heap[X9]? = some (.cells #[.int .i64 0, .int .i64 0, .int .i64 0, .int .i64 0] 106) := by rw [hX9]; exact heap_alloc_new _ _
    have l9 : X9 < (w3.alloc (Obj.cells #[.int .i64 0, .int .i64 0, .int .i64 0, .int .i64 0] 106)).drew.heap.size := by rw [hX9]; simp
    have hs9 : (w3.alloc (Obj.cells #[.int .i64 0, .int .i64 0, .int .i64 0, .int .i64 0] 106)).drew.heap.size = w3.heap.size + 1 := by simp
    have hbx : Below w3.heap.size w3 (w3.alloc (Obj.cells #[.int .i64 0, .int .i64 0, .int .i64 0, .int .i64 0] 106)).drew := by (repeat' first|(with_reducible first|exact bw1|assumption|refine bw2 ?_ _|refine bw3 ?_ ?_ _|refine bw4 ?_|refine bw5 ?_ ?_ _|refine bw6 (by assumption) ?_ ?_|exact And.left (by assumption))|go_size)
    try simp only [← hX9]
    generalize (w3.alloc (Obj.cells #[.int .i64 0, .int .i64 0, .int .i64 0, .int .i64 0] 106)).drew = wx8 at *
    have HX9 := Lib.hid (And.intro hX9 hs9)
    have HN := Lib.hid hbx
    clear hbx hX9 hs9
    refine tailL_mk HN.out ?_
    repeat (refine tree_head rfl ?_; (show wpQuiet _ _ _ _ (_ :: _) _; go_big_quiet_step (fail)); refine wpQuiet_nil ?_)
    refine tree_one rfl ?_
    go_wp2_with fail
    refine (HCP.out _ (HB.out.trans (HN.out.mono HB.out.size))).mono ?_
    rintro e1 wx9 ⟨a1, p1', a2, p2', rfl, hbx, hbr1, hgr1⟩
    have HBR := Lib.hid hbr1
    have HGR := Lib.hid hgr1
    clear hbr1 hgr1
    have hzx := hbx.size
    have HN := Lib.hid (HN.out.trans (hbx.mono HN.out.size))
    have hx9 := (hbx.block X9 l9).trans hx9
    have l9 := Nat.lt_of_lt_of_le l9 hbx.size
    clear hbx
    go_wp2_with fail
    refine tailL_mk HN.out ?_
    repeat (refine tree_head rfl ?_; (show wpQuiet _ _ _ _ (_ :: _) _; go_big_quiet_step (fail)); refine wpQuiet_nil ?_)
    refine tree_one rfl ?_
    go_wp2_with fail
    refine (HBA.out a1 a2 p1' p2' _ HBR.out HGR.out).mono ?_
    rintro e1 wx10 ⟨rfl, hbx⟩
    have hzx := hbx.size
    have HN := Lib.hid (HN.out.trans (hbx.mono HN.out.size))
    have HBR := Lib.hid (HBR.out.below hbx)
    have HGR := Lib.hid (HGR.out.below hbx)
    have hx9 := (hbx.block X9 l9).trans hx9
    have l9 := Nat.lt_of_lt_of_le l9 hbx.size
    clear hbx
    go_wp2_with fail
    refine tailL_mk HN.out ?_
    repeat (refine tree_head rfl ?_; (show wpQuiet _ _ _ _ (_ :: _) _; go_big_quiet_step (fail)); refine wpQuiet_nil ?_)
    refine tree_one rfl ?_
    have c90 := cell_of_row _ _ 0 _ _ _ hx9
    have f90 := frozen_of_row _ _ 0 _ _ hx9
    have c91 := cell_of_row _ _ 1 _ _ _ hx9
    have f91 := frozen_of_row _ _ 1 _ _ hx9
    have c92 := cell_of_row _ _ 2 _ _ _ hx9
    have f92 := frozen_of_row _ _ 2 _ _ hx9
    have c93 := cell_of_row _ _ 3 _ _ _ hx9
    have f93 := frozen_of_row _ _ 3 _ _ hx9
    simp only [List.getElem?_toArray, List.getElem?_cons_zero, List.getElem?_cons_succ] at c90 c91 c92 c93
    go_wp2_with fail
    have HN := Lib.hid (show Below w3.heap.size w3 ((((wx10.setCell ⟨X9, 0, none⟩ (.int .i64 B1)).setCell ⟨X9, 1, none⟩ (.int .i64 B2)).setCell ⟨X9, 2, none⟩ (.int .i64 B3)).setCell ⟨X9, 3, none⟩ (.int .i64 B4)) from Below.setCell (Below.setCell (Below.setCell (Below.setCell (HN.out) hNX _) hNX _) hNX _) hNX _)
    have hxo := hx9
    have hx9 : ((((wx10.setCell ⟨X9, 0, none⟩ (.int .i64 B1)).setCell ⟨X9, 1, none⟩ (.int .i64 B2)).setCell ⟨X9, 2, none⟩ (.int .i64 B3)).setCell ⟨X9, 3, none⟩ (.int .i64 B4)).heap[X9]? = some (.cells #[.int .i64 B1, .int .i64 B2, .int .i64 B3, .int .i64 B4] 106) := blk_set (blk_set (blk_set (blk_set (hx9) 0 (.int .i64 B1)) 1 (.int .i64 B2)) 2 (.int .i64 B3)) 3 (.int .i64 B4)
    refine tailL_mk HN.out ?_
    repeat (refine tree_head rfl ?_; (show wpQuiet _ _ _ _ (_ :: _) _; go_big_quiet_step (fail)); refine wpQuiet_nil ?_)
    refine tree_done ?_
    go_wp2_with fail
    go_meet
    case rel => exact ⟨X9, rfl, rfl, Lib.hid hx9, HN⟩
  case rest =>
   obtain ⟨w4, rfl⟩ : ∃ w', w' = wc := ⟨wc, rfl⟩
   obtain ⟨X7, rfl, rfl, K7, HQ⟩ := hcut
   have hbq := HQ.out
   clear q0 q1 q2 u0 u1 u2 u3 u4 u5 p0 p1 p2 l3 l4 l5
   have K3 := Lib.hid (K3.out.below hbq)
   have K4 := Lib.hid (K4.out.below hbq)
   have K5 := Lib.hid (K5.out.below hbq)
   have HB := Lib.hid (HB.out.trans (hbq.mono HB.out.size))
   clear hbq HQ HBA
   obtain ⟨q0, q1, q2, _⟩ := blkc3 K3.out
   obtain ⟨u0, u1, u2, u3, u4, u5, _⟩ := blkc6 K4.out
   obtain ⟨p0, p1, p2, _⟩ := blkc3 K5.out
   have l3 := K3.out.lt
   have l4 := K4.out.lt
   have l5 := K5.out.lt
   go_wp2_with fail
   go_cut [9] from 31 to 36 (fun v9 wx => v9 = .int .i64 F ∧ Hid (Below w4.heap.size w4 wx))
   case first =>
    have HN := Lib.hid (Below.refl w4.heap.size w4).drew
    refine wp_region_laterT (B := w4.heap.size) (.head 0 (.head 2 (.head 3 (.head 4 (.one 1 (.one 5 (.head 6 .done))))))) (by kernel_rfl) (by kernel_rfl) ?_
    repeat (refine tree_head rfl ?_; (show wpQuiet _ _ _ _ (_ :: _) _; go_big_quiet_step (fail)); refine wpQuiet_nil ?_)
    refine tree_one rfl ?_
    go_wp2_with fail
    refine (HCP.out _ (HB.out.trans (HN.out.mono HB.out.size))).mono ?_
    rintro e1 wx1 ⟨a1, p1', a2, p2', rfl, hbx, hbr1, hgr1⟩
    have HBR := Lib.hid hbr1
    have HGR := Lib.hid hgr1
    clear hbr1 hgr1
    have hzx := hbx.size
    have HN := Lib.hid (HN.out.trans (hbx.mono HN.out.size))
    clear hbx
    go_wp2_with fail
    refine tailL_mk HN.out ?_
    repeat (refine tree_head rfl ?_; (show wpQuiet _ _ _ _ (_ :: _) _; go_big_quiet_step (fail)); refine wpQuiet_nil ?_)
    refine tree_one rfl ?_
    go_wp2_with fail
    refine (HCS.out a1 a2 p1' p2' _ HBR.out HGR.out).mono ?_
    rintro e1 wx2 ⟨rfl, hbx⟩
    have hzx := hbx.size
    have HN := Lib.hid (HN.out.trans (hbx.mono HN.out.size))
    have HBR := Lib.hid (HBR.out.below hbx)
    have HGR := Lib.hid (HGR.out.below hbx)
    clear hbx
    go_wp2_with fail
    refine tailL_mk HN.out ?_
    repeat (refine tree_head rfl ?_; (show wpQuiet _ _ _ _ (_ :: _) _; go_big_quiet_step (fail)); refine wpQuiet_nil ?_)
    refine tree_done ?_
    go_wp2_with fail
    go_meet
    case rel => exact ⟨rfl, HN⟩
   case rest =>
    obtain ⟨w5, rfl⟩ : ∃ w', w' = wc := ⟨wc, rfl⟩
    obtain ⟨rfl, HQ⟩ := hcut
    have hbq := HQ.out
    clear q0 q1 q2 u0 u1 u2 u3 u4 u5 p0 p1 p2 l3 l4 l5
    have K3 := Lib.hid (K3.out.below hbq)
    have K4 := Lib.hid (K4.out.below hbq)
    have K5 := Lib.hid (K5.out.below hbq)
    have HB := Lib.hid (HB.out.trans (hbq.mono HB.out.size))
    have K7 := Lib.hid (K7.out.below hbq)
    clear hbq
    obtain ⟨q0, q1, q2, _⟩ := blkc3 K3.out
    obtain ⟨u0, u1, u2, u3, u4, u5, _⟩ := blkc6 K4.out
    obtain ⟨p0, p1, p2, _⟩ := blkc3 K5.out
    have l3 := K3.out.lt
    have l4 := K4.out.lt
    have l5 := K5.out.lt
    clear HQ HCS
    go_wp2_with fail
    go_cut [10] from 37 to 44 (fun v9 wx => v9 = .int .i64 G ∧ Hid (Below w5.heap.size w5 wx))
    case first =>
     have HN := Lib.hid (Below.refl w5.heap.size w5).drew
     refine wp_region_laterT (B := w5.heap.size) (.head 0 (.head 2 (.head 3 (.head 4 (.head 5 (.head 6 (.one 1 (.one 7 (.head 8 .done))))))))) (by kernel_rfl) (by kernel_rfl) ?_
     repeat (refine tree_head rfl ?_; (show wpQuiet _ _ _ _ (_ :: _) _; go_big_quiet_step (fail)); refine wpQuiet_nil ?_)
     refine tree_one rfl ?_
     go_wp2_with fail
     refine (HCP.out _ (HB.out.trans (HN.out.mono HB.out.size))).mono ?_
     rintro e1 wx1 ⟨a1, p1', a2, p2', rfl, hbx, hbr1, hgr1⟩
     have HBR := Lib.hid hbr1
     have HGR := Lib.hid hgr1
     clear hbr1 hgr1
     have hzx := hbx.size
     have HN := Lib.hid (HN.out.trans (hbx.mono HN.out.size))
     clear hbx
     go_wp2_with fail
     refine tailL_mk HN.out ?_
     repeat (refine tree_head rfl ?_; (show wpQuiet _ _ _ _ (_ :: _) _; go_big_quiet_step (fail)); refine wpQuiet_nil ?_)
     refine tree_one rfl ?_
     go_wp2_with fail
     refine (HCM.out a1 a2 p1' p2' _ HBR.out HGR.out).mono ?_
     rintro e1 wx2 ⟨rfl, hbx⟩
     have hzx := hbx.size
     have HN := Lib.hid (HN.out.trans (hbx.mono HN.out.size))
     have HBR := Lib.hid (HBR.out.below hbx)
     have HGR := Lib.hid (HGR.out.below hbx)
     clear hbx
     go_wp2_with fail
     refine tailL_mk HN.out ?_
     repeat (refine tree_head rfl ?_; (show wpQuiet _ _ _ _ (_ :: _) _; go_big_quiet_step (fail)); refine wpQuiet_nil ?_)
     refine tree_done ?_
     go_wp2_with fail
     go_meet
     case rel => exact ⟨rfl, HN⟩
    case rest =>
     obtain ⟨w6, rfl⟩ : ∃ w', w' = wc := ⟨wc, rfl⟩
     obtain ⟨rfl, HQ⟩ := hcut
     have hbq := HQ.out
     clear q0 q1 q2 u0 u1 u2 u3 u4 u5 p0 p1 p2 l3 l4 l5
     have K3 := Lib.hid (K3.out.below hbq)
     have K4 := Lib.hid (K4.out.below hbq)
     have K5 := Lib.hid (K5.out.below hbq)
     have HB := Lib.hid (HB.out.trans (hbq.mono HB.out.size))
     have K7 := Lib.hid (K7.out.below hbq)
     clear hbq
     obtain ⟨q0, q1, q2, _⟩ := blkc3 K3.out
     obtain ⟨u0, u1, u2, u3, u4, u5, _⟩ := blkc6 K4.out
     obtain ⟨p0, p1, p2, _⟩ := blkc3 K5.out
     have l3 := K3.out.lt
     have l4 := K4.out.lt
     have l5 := K5.out.lt
     clear HQ HCM HCP
     go_wp2_with fail
     refine (HBE.out _ HB.out).mono ?_
     rintro ex w9 ⟨rfl, hb9⟩
     clear q0 q1 q2 u0 u1 u2 u3 u4 u5 p0 p1 p2 l3 l4 l5
     have K3 := Lib.hid (K3.out.below hb9)
     have K4 := Lib.hid (K4.out.below hb9)
     have K5 := Lib.hid (K5.out.below hb9)
     have HB := Lib.hid (HB.out.trans (hb9.mono HB.out.size))
     have K7 := Lib.hid (K7.out.below hb9)
     clear hb9
     obtain ⟨q0, q1, q2, _⟩ := blkc3 K3.out
     obtain ⟨u0, u1, u2, u3, u4, u5, _⟩ := blkc6 K4.out
     obtain ⟨p0, p1, p2, _⟩ := blkc3 K5.out
     have l3 := K3.out.lt
     have l4 := K4.out.lt
     have l5 := K5.out.lt
     clear HBE
     by_cases hO : OE = 0
     ·subst hO
      go_wp2_with fail
      refine (HSE.out _).mono ?_
      rintro ex w10 ⟨rfl, hb10⟩
      clear q0 q1 q2 u0 u1 u2 u3 u4 u5 p0 p1 p2 l3 l4 l5
      have K3 := Lib.hid (K3.out.below hb10)
      have K4 := Lib.hid (K4.out.below hb10)
      have K5 := Lib.hid (K5.out.below hb10)
      have HB := Lib.hid (HB.out.trans (hb10.mono HB.out.size))
      have K7 := Lib.hid (K7.out.below hb10)
      clear hb10
      obtain ⟨q0, q1, q2, _⟩ := blkc3 K3.out
      obtain ⟨u0, u1, u2, u3, u4, u5, _⟩ := blkc6 K4.out
      obtain ⟨p0, p1, p2, _⟩ := blkc3 K5.out
      have l3 := K3.out.lt
      have l4 := K4.out.lt
      have l5 := K5.out.lt
      clear HSE
      by_cases hS : SE = 0
      ·subst hS
       obtain ⟨n, rfl, hn, hm, hl, hF, hbad, hgood⟩ := HL.out.ok HOE.out.symm HSQ.out.symm
       rw [HLN.out] at hn
       rw [← HCQ.out] at hbad hgood
       have HRSX := Lib.hid (HRS.out hm hl n hn)
       rw [← hF] at HRSX
       have xF : (F != F) = false := by simp
       clear hF
       go_wp2_with fail
       refine (HRSX.out _ HB.out).mono ?_
       rintro ex w11 ⟨rfl, hb11⟩
       clear q0 q1 q2 u0 u1 u2 u3 u4 u5 p0 p1 p2 l3 l4 l5
       have K3 := Lib.hid (K3.out.below hb11)
       have K4 := Lib.hid (K4.out.below hb11)
       have K5 := Lib.hid (K5.out.below hb11)
       have HB := Lib.hid (HB.out.trans (hb11.mono HB.out.size))
       have K7 := Lib.hid (K7.out.below hb11)
       clear hb11
       obtain ⟨q0, q1, q2, _⟩ := blkc3 K3.out
       obtain ⟨u0, u1, u2, u3, u4, u5, _⟩ := blkc6 K4.out
       obtain ⟨p0, p1, p2, _⟩ := blkc3 K5.out
       have l3 := K3.out.lt
       have l4 := K4.out.lt
       have l5 := K5.out.lt
       clear HRSX HRS
       go_wp2_with fail
       refine (HCO.out _).mono ?_
       rintro ex w12 ⟨rfl, hb12⟩
       clear q0 q1 q2 u0 u1 u2 u3 u4 u5 p0 p1 p2 l3 l4 l5
       have K3 := Lib.hid (K3.out.below hb12)
       have K4 := Lib.hid (K4.out.below hb12)
       have K5 := Lib.hid (K5.out.below hb12)
       have HB := Lib.hid (HB.out.trans (hb12.mono HB.out.size))
       have K7 := Lib.hid (K7.out.below hb12)
       clear hb12
       obtain ⟨q0, q1, q2, _⟩ := blkc3 K3.out
       obtain ⟨u0, u1, u2, u3, u4, u5, _⟩ := blkc6 K4.out
       obtain ⟨p0, p1, p2, _⟩ := blkc3 K5.out
       have l3 := K3.out.lt
       have l4 := K4.out.lt
       have l5 := K5.out.lt
       clear HCO xF
       by_cases hC : CE = 0
       ·subst hC
        obtain ⟨k, rfl, hk, hG, hl1, hl2⟩ := hgood (by first | rfl | trivial)
        rw [HLN.out] at hk
        rw [← HLQ.out] at hl1 hl2
        have HRMX := Lib.hid (HRM.out hm hl n hn k hk)
        rw [← hG] at HRMX
        have xG : (G != G) = false := by simp
        clear hbad hgood hG HRM
        go_wp2_with fail
        refine (HRMX.out _ HB.out).mono ?_
        rintro ex w13 ⟨rfl, hb13⟩
        clear q0 q1 q2 u0 u1 u2 u3 u4 u5 p0 p1 p2 l3 l4 l5
        have K3 := Lib.hid (K3.out.below hb13)
        have K4 := Lib.hid (K4.out.below hb13)
        have K5 := Lib.hid (K5.out.below hb13)
        have HB := Lib.hid (HB.out.trans (hb13.mono HB.out.size))
        have K7 := Lib.hid (K7.out.below hb13)
        clear hb13
        obtain ⟨q0, q1, q2, _⟩ := blkc3 K3.out
        obtain ⟨u0, u1, u2, u3, u4, u5, _⟩ := blkc6 K4.out
        obtain ⟨p0, p1, p2, _⟩ := blkc3 K5.out
        have l3 := K3.out.lt
        have l4 := K4.out.lt
        have l5 := K5.out.lt
        clear HRMX
        go_wp2_with fail
        refine (HLE.out _).mono ?_
        rintro ex w14 ⟨rfl, rfl⟩
        clear xG
        by_cases hO : OL = 0
        ·subst hO
         obtain ⟨d0, d1, hE, hB⟩ := hl2 (by first | rfl | trivial)
         have HRBX := Lib.hid (HRB.out hm hl n hn k hk ⟨d0, d1⟩)
         rw [← hE, ← hB] at HRBX
         simp only at HRBX
         clear hl1 hl2 hE hB d0 d1 hn hk hm hl HRB
         go_wp2_with fail
         refine (HRBX.out _ HB.out).mono ?_
         rintro ex w15 ⟨rfl, hb15⟩
         clear q0 q1 q2 u0 u1 u2 u3 u4 u5 p0 p1 p2 l3 l4 l5
         have K3 := Lib.hid (K3.out.below hb15)
         have K4 := Lib.hid (K4.out.below hb15)
         have K5 := Lib.hid (K5.out.below hb15)
         have HB := Lib.hid (HB.out.trans (hb15.mono HB.out.size))
         have K7 := Lib.hid (K7.out.below hb15)
         clear hb15
         obtain ⟨q0, q1, q2, _⟩ := blkc3 K3.out
         obtain ⟨u0, u1, u2, u3, u4, u5, _⟩ := blkc6 K4.out
         obtain ⟨p0, p1, p2, _⟩ := blkc3 K5.out
         have l3 := K3.out.lt
         have l4 := K4.out.lt
         have l5 := K5.out.lt
         clear q0 q1 q2 u0 u1 u2 u3 u4 u5 p0 p1 p2 l3 l4 l5
         obtain ⟨x0', x1', x2', x3', l7'⟩ := blkc4 K7.out
         go_wp2
         go_ret
         exact ⟨ret_bool (by simp), HB.out.alloc HB.out.size _⟩
        ·obtain ⟨hE, hB⟩ := hl1 hO
         obtain rfl : E = OL := hE
         clear hl1 hl2 HRB hm hl hn hk
         obtain ⟨rfl, rfl, rfl, rfl⟩ : B1 = 0 ∧ B2 = 0 ∧ B3 = 0 ∧ B4 = 0 := by
          simp only [Prod.mk.injEq] at hB
          exact ⟨hB.1.1, hB.1.2, hB.2.1, hB.2.2⟩
         obtain ⟨x0', x1', x2', x3', l7'⟩ := blkc4 K7.out
         have e9 := bne_iff_ne.2 hO
         clear hB hO
         go_wp2
         go_ret
         exact ⟨ret_bool (by simp), HB.out⟩
       ·obtain ⟨hE, hG, hB⟩ := hbad hC
        obtain rfl : E = CE := hE
        obtain rfl : G = E := hG
        clear hbad hgood HRB HRM hm hl hn
        obtain ⟨rfl, rfl, rfl, rfl⟩ : B1 = 0 ∧ B2 = 0 ∧ B3 = 0 ∧ B4 = 0 := by
         simp only [Prod.mk.injEq] at hB
         exact ⟨hB.1.1, hB.1.2, hB.2.1, hB.2.2⟩
        obtain ⟨x0', x1', x2', x3', l7'⟩ := blkc4 K7.out
        have e9 := bne_iff_ne.2 hC
        clear hB hC
        go_wp2
        go_ret
        exact ⟨ret_bool (by simp), HB.out⟩
      ·obtain ⟨hE, hF, hG, hB⟩ := HL.out.b HOE.out.symm (by rw [← HSQ.out]; exact hS)
       rw [← HSQ.out] at hE hF hG
       obtain rfl : E = SE := hE
       obtain rfl : F = E := hF
       obtain rfl : G = F := hG
       obtain ⟨rfl, rfl, rfl, rfl⟩ : B1 = 0 ∧ B2 = 0 ∧ B3 = 0 ∧ B4 = 0 := by
        simp only [Prod.mk.injEq] at hB
        exact ⟨hB.1.1, hB.1.2, hB.2.1, hB.2.2⟩
       obtain ⟨x0', x1', x2', x3', l7'⟩ := blkc4 K7.out
       have e9 := bne_iff_ne.2 hS
       clear hB hS
       go_wp2
       go_ret
       exact ⟨ret_bool (by simp), HB.out⟩
     ·obtain ⟨hE, hF, hG, hB⟩ := HL.out.a (by rw [← HOE.out]; exact hO)
      rw [← HOE.out] at hE hF hG
      obtain rfl : E = OE := hE
      obtain rfl : F = E := hF
      obtain rfl : G = F := hG
      obtain ⟨rfl, rfl, rfl, rfl⟩ : B1 = 0 ∧ B2 = 0 ∧ B3 = 0 ∧ B4 = 0 := by
       simp only [Prod.mk.injEq] at hB
       exact ⟨hB.1.1, hB.1.2, hB.2.1, hB.2.2⟩
      obtain ⟨x0', x1', x2', x3', l7'⟩ := blkc4 K7.out
      have e9 := bne_iff_ne.2 hO
      clear hB hO
      go_wp2
      go_ret
      exact ⟨ret_bool (by simp), HB.out⟩
 ·have e81 : (decide (nb ≤ 8) && decide (ng ≤ 32)) = false := by
    rw [Bool.eq_false_iff]
    intro h
    rw [Bool.and_eq_true, decide_eq_true_eq, decide_eq_true_eq] at h
    exact hfew h
  rw [e81]
  clear e81 hfew
  go_wp2
  go_ret
  exact ⟨rfl, HB.out⟩
end Go.Proofs.YtidboecjllaofaaGreat
