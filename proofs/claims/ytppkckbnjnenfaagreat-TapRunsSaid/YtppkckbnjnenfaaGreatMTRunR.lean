import Derived.Test.YtppkckbnjnenfaaGreatTRefG
/- Runs: the reference. -/
namespace Go.Proofs.YtppkckbnjnenfaaGreat
open Go.RowKit Go.Shelf
set_option linter.unusedVariables false
set_option linter.unusedSimpArgs false
attribute [local go_sem] Oper.semAt_some
theorem runErr_any (a : Option Addr) (n c : Nat) (w : World) (hn : n ≤ 9223372036854775807) : Calls Tryz.prog 90 #[.slice a n c] w fun e' w' => e' = .returned (.int .i64 (unl (decide ((n : Int) ≤ 40)) 8)) ∧ w = w' := by
 by_cases h : (n : Int) ≤ 40
 ·have h2 : ¬ ((40 : Int) < (n : Int)) := by omega
  rw [decide_eq_true h]
  go_enter Tryz.func90, Tryz.ntmps90
  go_wp2
  go_ret
  exact ⟨rfl, rfl⟩
 ·have h2 : (40 : Int) < (n : Int) := by omega
  rw [decide_eq_false h]
  go_enter Tryz.func90, Tryz.ntmps90
  go_wp2
  go_ret
  exact ⟨rfl, rfl⟩
set_option maxHeartbeats 2000000 in
set_option maxRecDepth 100000 in
theorem rRun_any (m : Mac) (l : Lim) (c : List Int) (ac ab ag : Option Addr) (n cc nb cb ng cg : Nat) (w : World) (hm : MacV m) (hl : limE l = 0) (hb : BrR w ab nb m.br) (hg : GrR w ag ng m.gs) (hc : IntsR w ac n c) :
    Calls Tryz.prog 37 #[.agg #[.slice ab nb cb, .int .i64 m.st, .slice ag ng cg], .agg #[.int .i64 l.volt, .int .i64 l.lo, .int .i64 l.hi, .int .i64 l.circ, .int .i64 l.brk, .int .i64 l.ret], .slice ac n cc] w
     fun e' w' => ∃ a' n' c', e' = .returned (.tuple #[.slice a' n' c', .int .i64 (runX m l c).1, .int .i64 (runX m l c).2]) ∧ Below w.heap.size w w' ∧ IntsR w' a' n' (nats (runV m l c)) := by
 have hlen := hb.len
 have hcl := hc.len
 have hn6 : nb ≤ 6 := by rw [← hlen]; exact hm.n1
 have hst := hm.st
 have hsn : ((m.st.toNat : Nat) : Int) = m.st := by omega
 have hs0 : m.st.toNat < 2 ^ nb := by rw [← hlen]; exact runS_lt hm (c := c) 0 (fun j h => absurd h (by omega))
 have HSF := Lib.hid (fun (W : World) (hbw : Below w.heap.size w W) => show Calls Tryz.prog 66 #[.agg #[.slice ab nb cb, .int .i64 m.st, .slice ag ng cg], .agg #[.int .i64 l.volt, .int .i64 l.lo, .int .i64 l.hi, .int .i64 l.circ, .int .i64 l.brk, .int .i64 l.ret], .int .i64 m.st] W (fun e' w' => e' = .returned (.int .i64 (safE m l m.st.toNat)) ∧ Below W.heap.size W w') from by
  have h := rcheckState_any m l m.st.toNat ab ag nb cb ng cg W hm hl (hb.below hbw) hs0
  rwa [hsn] at h)
 have HUN := Lib.hid (fun (W : World) => runErr_any ac n cc W hc.small)
 have HCO := Lib.hid (fun (x : Int) (W : World) => rConE_any m.st nb cb ng cg ab ag x W (by omega))
 have HCG := Lib.hid (fun (s i : Nat) (hs : s < 2 ^ nb) (hi : i < nb) (W : World) (hbw : Below w.heap.size w W) => rcheckMove_any m l s i ab ag nb cb ng cg W hm hl (hb.below hbw) (hg.below hbw) hs hi)
 have HTU := Lib.hid (fun (s i : Nat) (hs : s < 64) (hi : i < 6) w' => changed_any s i w' hs hi)
 have HIN := Lib.hid (fun (W : World) (hbw : Below w.heap.size w W) => hc.below hbw)
 have HLT := Lib.hid (fun k h => by have := runS_lt hm (c := c) k h; rwa [hlen] at this)
 have hX : runX m l c = if runH m l n ≠ 0 then (0, runH m l n) else firstAt (runE m l c) n 0 := by unfold runX; rw [hcl]
 have hV : runV m l c = if (runX m l c).2 ≠ 0 then [] else runL m c n := by unfold runV; rw [hcl]
 have HRH := Lib.hid (show runH m l n = firstErr [unl (decide ((n : Int) ≤ 40)) 8, safE m l m.st.toNat] from rfl)
 have HN40 := Lib.hid (fun (h : runH m l n = 0) => show n ≤ 40 from by
  by_cases hn : (n : Int) ≤ 40
  ·omega
  ·unfold runH at h; rw [decide_eq_false hn] at h; simp [firstErr, unl] at h)
 have HRE := Lib.hid (fun k => show runE m l c k = if conE nb (c.getD k 0) ≠ 0 then conE nb (c.getD k 0) else chgE m l (runS m c k) (c.getD k 0).toNat from by unfold runE; rw [hlen])
 have HS0 := Lib.hid (show ((runS m c 0 : Nat) : Int) = m.st from hsn)
 have HSS := Lib.hid (fun k => show runS m c (k + 1) = trn (runS m c k) (c.getD k 0).toNat from rfl)
 have HL0 := Lib.hid (show nats (runL m c 0) = [((runS m c 0 : Nat) : Int)] from rfl)
 have HLS := Lib.hid (fun k => show nats (runL m c (k + 1)) = nats (runL m c k) ++ [((runS m c (k + 1) : Nat) : Int)] from by rw [runL_succ]; simp [nats])
 have HLG := Lib.hid (fun k => show (nats (runL m c k)).getD k 0 = ((runS m c k : Nat) : Int) from by unfold runL nats; simp [List.getD])
 rw [hlen] at HLT
 obtain ⟨X1, hX1⟩ : ∃ x, x = runX m l c := ⟨_, rfl⟩
 rw [← hX1] at hX hV ⊢
 generalize runV m l c = V at *
 generalize runH m l n = RH at *
 generalize safE m l m.st.toNat = SF at *
 generalize runE m l c = RE at *
 generalize runS m c = RS at *
 generalize runL m c = RL at *
 have HX := Lib.hid hX
 have HV := Lib.hid hV
 obtain ⟨XI, XE⟩ := X1
 obtain ⟨st, hst2⟩ : ∃ x, x = m.st := ⟨_, rfl⟩
 rw [← hst2] at HSF HCO HCG HS0 hst ⊢
 have HCG2 := HCG
 generalize hcg : chgE m l = CG at *
 obtain ⟨vo, lo, hi, ci, br, re⟩ := l
 simp only at HSF HCG ⊢
 clear hb hg hc hm hl hlen hcl hsn hs0 hX hV hX1 hst2 HCG2 hcg
 go_enter Tryz.func37, Tryz.ntmps37
 go_wp2_with fail
 obtain ⟨w1, hW⟩ : ∃ w1, w1 = ((w.alloc (Obj.cells #[.slice ab nb cb, .int .i64 st, .slice ag ng cg] 45)).alloc (Obj.cells #[.int .i64 vo, .int .i64 lo, .int .i64 hi, .int .i64 ci, .int .i64 br, .int .i64 re] 47)) := ⟨_, rfl⟩
 obtain ⟨hb1, k4, k5⟩ := alc2 w (Obj.cells #[.slice ab nb cb, .int .i64 st, .slice ag ng cg] 45) (Obj.cells #[.int .i64 vo, .int .i64 lo, .int .i64 hi, .int .i64 ci, .int .i64 br, .int .i64 re] 47)
 rw [← hW] at hb1 k4 k5
 obtain ⟨X4, hX4⟩ : ∃ X, X = w.heap.size := ⟨_, rfl⟩
 obtain ⟨X5, hX5⟩ : ∃ X, X = w.heap.size + 1 := ⟨_, rfl⟩
 rw [← hX5] at k5
 have k4 : BlkR w1 X4 (.cells #[.slice ab nb cb, .int .i64 st, .slice ag ng cg] 45) := by rw [hX4]; exact k4
 have K4 := Lib.hid k4
 have K5 := Lib.hid k5
 have HB1 := Lib.hid hb1
 clear k4 k5 hb1
 rw [← hW]
 simp only [← hX5]
 simp only [← hX4]
 have HX4 := Lib.hid hX4
 clear hW hX4 hX5
 refine (HUN.out _).mono ?_
 rintro e2 w2 ⟨rfl, rfl⟩
 clear HUN
 by_cases hn : (n : Int) ≤ 40
 rotate_left
 ·rw [decide_eq_false hn] at HRH ⊢
  have h0 : RH = 8 := by rw [HRH.out]; simp [firstErr, unl]
  have hx1 := HX.out
  rw [if_pos (by rw [h0]; decide), h0] at hx1
  injection hx1 with hx1 hx2
  have hv1 := HV.out
  rw [if_pos (by rw [hx2]; decide)] at hv1
  clear HX HV HRH
  simp only [unl, Bool.false_eq_true, if_false]
  go_wp2
  go_ret3
  obtain rfl : XI = 0 := hx1
  obtain rfl : XE = 8 := hx2
  first | exact ⟨none, 0, 0, rfl, HB1.out, by first | exact IntsR.nil _ _ | (rw [hv1]; exact IntsR.nil _ _)⟩ | exact ⟨none, 0, ⟨0, rfl⟩, HB1.out, by first | exact IntsR.nil _ _ | (rw [hv1]; exact IntsR.nil _ _)⟩
 ·rw [decide_eq_true hn] at HRH ⊢
  have h0 : RH = SF := by rw [HRH.out]; by_cases hz : SF = 0 <;> simp [firstErr, unl, hz]
  subst h0
  clear HRH
  simp only [unl, if_true]
  have hn40 : n ≤ 40 := by omega
  obtain ⟨q0, q1, q2, _⟩ := blkc3 K4.out
  obtain ⟨u0, u1, u2, u3, u4, u5, _⟩ := blkc6 K5.out
  have l4 := K4.out.lt
  have l5 := K5.out.lt
  go_wp2_with fail
  refine (HSF.out _ HB1.out).mono ?_
  rintro e3 w3 ⟨rfl, hb3⟩
  have HB := HB1
  have K4 := Lib.hid (K4.out.below hb3)
  have K5 := Lib.hid (K5.out.below hb3)
  have HB := bwt HB hb3
  clear hb3
  clear q0 q1 q2 u0 u1 u2 u3 u4 u5 l4 l5
  obtain ⟨q0, q1, q2, _⟩ := blkc3 K4.out
  obtain ⟨u0, u1, u2, u3, u4, u5, _⟩ := blkc6 K5.out
  have l4 := K4.out.lt
  have l5 := K5.out.lt
  clear HSF HB1
  by_cases h0 : RH = 0
  rotate_left
  ·have e1 := bne_iff_ne.2 h0
   have hx1 := HX.out
   rw [if_pos h0] at hx1
   injection hx1 with hx1 hx2
   have hv1 := HV.out
   rw [if_pos (by rw [hx2]; exact h0)] at hv1
   clear HX HV
   go_wp2
   go_ret3
   obtain rfl : XI = 0 := hx1
   obtain rfl : XE = RH := hx2
   first | exact ⟨none, 0, 0, rfl, HB.out, by first | exact IntsR.nil _ _ | (rw [hv1]; exact IntsR.nil _ _)⟩ | exact ⟨none, 0, ⟨0, rfl⟩, HB.out, by first | exact IntsR.nil _ _ | (rw [hv1]; exact IntsR.nil _ _)⟩
  ·subst h0
   have hx1 := HX.out
   rw [if_neg (by simp)] at hx1
   have HXF := Lib.hid hx1.symm
   clear hx1 HX
   obtain ⟨q0, q1, q2, _⟩ := blkc3 K4.out
   obtain ⟨u0, u1, u2, u3, u4, u5, _⟩ := blkc6 K5.out
   have l4 := K4.out.lt
   have l5 := K5.out.lt
   go_wp2_with fail
   have hown0 : (w3.alloc (Obj.cells #[.int .i64 st] 3)).ownsRow w3.heap.size 3 1 (.slice (some ⟨w3.heap.size, 0, none⟩) 1 1) 1 (icells (nats (RL 0))) := by
    rw [HL0.out, HS0.out]
    exact owns_lit (w0 := w3) (base := w3.heap.size) (n := 1) (sz := 1) (cs := #[.int .i64 st]) (by simp) (by omega) (by omega) rfl
   obtain ⟨w5, hW5⟩ : ∃ w5, w5 = w3.alloc (Obj.cells #[.int .i64 st] 3) := ⟨_, rfl⟩
   have hb5 : Below w3.heap.size w3 w5 := by rw [hW5]; (first|exact bwg|go_size)
   have hz5 : w5.heap.size = w3.heap.size + 1 := by rw [hW5]; exact World.size_alloc ..
   rw [← hW5] at hown0 ⊢
   obtain ⟨a5, ha5⟩ : ∃ a, a = w3.heap.size := ⟨_, rfl⟩
   simp only [← ha5] at hown0 ⊢
   rw [← ha5] at hz5
   have HS4 := Lib.hid (show X4 < a5 by rw [ha5]; exact l4)
   have HS5 := Lib.hid (show X5 < a5 by rw [ha5]; exact l5)
   have K4 := Lib.hid (K4.out.below hb5)
   have K5 := Lib.hid (K5.out.below hb5)
   have HB5 := bwt HB hb5
   have HO5 := Lib.hid hown0
   have HZ5 := Lib.hid (show a5 ≤ w5.heap.size by omega)
   have HZA := Lib.hid (show w.heap.size ≤ a5 by rw [ha5]; exact HB.out.size)
   clear hW5 hb5 hz5 hown0 ha5
   clear q0 q1 q2 u0 u1 u2 u3 u4 u5 l4 l5
   clear HB
   go_loopw [11, 12] (fun v x wr => ∃ (k : Nat) (av : Option Addr) (cv : Nat), v = .slice av (k + 1) cv ∧ x = .int .i64 (k : Int) ∧ k ≤ n ∧ Hid (∀ j, j < k → conE nb (c.getD j 0) = 0) ∧ Hid (firstAt RE (n - k) k = (XI, XE)) ∧ Hid (wr.ownsRow a5 3 1 (.slice av (k + 1) cv) (k + 1) (icells (nats (RL k)))) ∧ Hid (Below a5 w5 wr)) (fun _ x _ => n - (intOf x).toNat)
   case atStart => exact ⟨0, _, _, rfl, rfl, by omega, Lib.hid (fun j h => absurd h (by omega)), Lib.hid HXF.out, HO5, Lib.hid (Below.refl _ _)⟩
   case round =>
    obtain ⟨k, av, cv, rfl, rfl, hk, HKC, HKX, HKO, HBr⟩ := hrel
    have HB := Lib.hid (show Below w.heap.size w wr from HB5.out.trans (HBr.out.mono HZA.out))
    have K4 := Lib.hid (show BlkR wr X4 _ from (HBr.out.block _ HS4.out).trans K4.out)
    have K5 := Lib.hid (show BlkR wr X5 _ from (HBr.out.block _ HS5.out).trans K5.out)
    have i0 : (0 : Int) ≤ (k : Int) := by omega
    by_cases hlt : k < n
    ·have i1 : (k : Int) < (n : Int) := by omega
     have hI := HIN.out _ HB.out
     obtain ⟨bq, oq, rfl, hbq, hca⟩ := hI.addr (by omega)
     have hcl := hca k hlt
     have HI := Lib.hid hI
     have HBQ := Lib.hid (show bq < w.heap.size from by
      obtain ⟨_, _, hq1, hbq2, _⟩ := (HIN.out w (Below.refl _ _)).addr (by omega)
      injection hq1 with hq1
      injection hq1 with hq1 hq2
      rw [hq1]; exact hbq2)
     clear hca
     generalize hx : c.getD k 0 = x at hcl
     have HGX := Lib.hid hx
     clear hI hx
     obtain ⟨q0, q1, q2, _⟩ := blkc3 K4.out
     obtain ⟨u0, u1, u2, u3, u4, u5, _⟩ := blkc6 K5.out
     have l4 := K4.out.lt
     have l5 := K5.out.lt
     go_wp2_with fail
     refine later_all (by kernel_rfl) (by kernel_rfl) ?_; repeat go_big_quiet_step(with_reducible exact calls_later (HCO.out _ _))
     refine wpQuiet_nil ?_; intro w6 hb6
     have HBr := Lib.hid (HBr.out.trans (hb6.mono (by have := HBr.out.size; have := HZ5.out; omega)))
     have HI := Lib.hid (HI.out.below hb6)
     have ho : wr.ownsRow a5 3 1 (.slice av (k + 1) cv) (k + 1) (icells (nats (RL k))) := HKO.out
     have HKO := Lib.hid (owns_below ho hb6 (fun q hq => (World.ownsRow.lt ho q hq).2))
     clear hcl ho
     have K4 := Lib.hid (K4.out.below hb6)
     have K5 := Lib.hid (K5.out.below hb6)
     have HB := bwt HB hb6
     clear hb6
     clear q0 q1 q2 u0 u1 u2 u3 u4 u5 l4 l5
     obtain ⟨q0, q1, q2, _⟩ := blkc3 K4.out
     obtain ⟨u0, u1, u2, u3, u4, u5, _⟩ := blkc6 K5.out
     have l4 := K4.out.lt
     have l5 := K5.out.lt
     have HS := Lib.hid (HKX.out.symm.trans (firstAt_step hlt))
     have HR := Lib.hid (HRE.out k)
     rw [HGX.out] at HR
     clear HKX
     by_cases h1 : conE nb x = 0
     ·have HS64 := Lib.hid (show RS k < 2 ^ nb from HLT.out k (fun j hj => HKC.out j hj))
      obtain ⟨xn, rfl, hxn⟩ : ∃ xn : Nat, x = (xn : Int) ∧ xn < nb := by have := conE_zero.1 h1; exact ⟨x.toNat, by omega, by omega⟩
      rw [h1, Int.toNat_natCast, if_neg (by exact fun h => h rfl)] at HR
      have HN1 := Lib.hid h1
      have HCR := Lib.hid (fun (W : World) (hbw : Below w6.heap.size w6 W) => HCG.out (RS k) xn HS64.out hxn W (HB.out.trans (hbw.mono HB.out.size)))
      have HSR := Lib.hid (HSS.out k)
      rw [HGX.out, Int.toNat_natCast] at HSR
      have HT := Lib.hid (fun W => HTU.out (RS k) xn (Nat.lt_of_lt_of_le HS64.out (Nat.le_trans (Nat.pow_le_pow_right (by omega) hn6) (by decide))) (by omega) W)
      rw [← HSR.out] at HT
      have HLk := Lib.hid (HLS.out k)
      rw [h1]
      have hoi : IntsR w6 av (k + 1) (nats (RL k)) := SlR.of_owns HKO.out
      obtain ⟨bo, oo, rfl, hbo, hoa⟩ := hoi.addr (by omega)
      have hoc := hoa k (by omega)
      clear hoa
      rw [HLG.out] at hoc
      obtain ⟨_, _, hq1, hbq2, hca⟩ := HI.out.addr (by omega)
      injection hq1 with hq1
      injection hq1 with hq1 hq2
      subst hq1 hq2
      have hcl := hca k hlt
      rw [HGX.out] at hcl
      clear hca hoi
      have i3 : (k : Int) < ((k + 1 : Nat) : Int) := by omega
      have i4 : (k : Int) < (k : Int) + 1 := by omega
      generalize CG (RS k) xn = E7 at *
      go_wp2_with fail
      refine later_all (by kernel_rfl) (by kernel_rfl) ?_; repeat go_big_quiet_step(first | with_reducible exact calls_later (HCR.out _ (Later.below _)) | (trace_state; fail))
      refine wpQuiet_nil ?_; intro w7 hb7
      have HBr := Lib.hid (HBr.out.trans (hb7.mono (by have := HBr.out.size; have := HZ5.out; omega)))
      have HI := Lib.hid (HI.out.below hb7)
      have ho : w6.ownsRow a5 3 1 (.slice (some ⟨bo, oo, none⟩) (k + 1) cv) (k + 1) (icells (nats (RL k))) := HKO.out
      have HKO := Lib.hid (owns_below ho hb7 (fun q hq => (World.ownsRow.lt ho q hq).2))
      clear hcl ho hoc HCR
      have K4 := Lib.hid (K4.out.below hb7)
      have K5 := Lib.hid (K5.out.below hb7)
      have HB := bwt HB hb7
      clear hb7
      clear q0 q1 q2 u0 u1 u2 u3 u4 u5 l4 l5
      obtain ⟨q0, q1, q2, _⟩ := blkc3 K4.out
      obtain ⟨u0, u1, u2, u3, u4, u5, _⟩ := blkc6 K5.out
      have l4 := K4.out.lt
      have l5 := K5.out.lt
      by_cases h2 : E7 = 0
      ·subst h2
       have hs := HS.out
       rw [HR.out, if_neg (by exact fun h => h rfl)] at hs
       have HS2 := Lib.hid hs
       clear hs HS HR
       have hoi : IntsR w7 (some ⟨bo, oo, none⟩) (k + 1) (nats (RL k)) := SlR.of_owns HKO.out
       obtain ⟨_, _, hq1, hbo, hoa⟩ := hoi.addr (by omega)
       injection hq1 with hq1
       injection hq1 with hq1 hq2
       subst hq1 hq2
       have hoc := hoa k (by omega)
       rw [HLG.out] at hoc
       obtain ⟨_, _, hq1, hbq2, hca⟩ := HI.out.addr (by omega)
       injection hq1 with hq1
       injection hq1 with hq1 hq2
       subst hq1 hq2
       have hcl := hca k hlt
       rw [HGX.out] at hcl
       clear hca hoi hoa
       have i5 : (k : Int) < ((k + 1 : Nat) : Int) := by omega
       go_wp2_with fail
       have hqa : bq < a5 := Nat.lt_of_lt_of_le HBQ.out HZA.out
       have hz7 := HBr.out.size
       have hza := HZ5.out
       refine wp_region_mixZ (B := a5) [(true, 0), (true, 1), (true, 2), (true, 3), (true, 5), (true, 6), (true, 7), (true, 8), (false, 4), (false, 9), (false, 10), (false, 11), (false, 12)] 12 (by kernel_rfl) (by kernel_rfl) ?_; simp only [opsOf, List.filterMap_cons, List.filterMap_nil, List.getElem?_toArray, List.getElem?_cons_zero, List.getElem?_cons_succ, Option.map_some]
       repeat (refine mixz_head ?_; (show wpQuiet _ _ _ _ (_ :: _) _; go_big_quiet_step (fail)); refine wpQuiet_nil ?_)
       refine mixz_tail ?_; go_wp2_with fail
       refine tailL_mk (Below.refl _ _).drew ?_
       refine mixz_tail ?_; go_wp2_with fail
       refine (HT.out _).mono ?_
       rintro e8 w8 ⟨rfl, rfl⟩
       clear HT
       go_wp2_with fail
       refine tailL_mk (Below.refl _ _).drew ?_
       refine mixz_tail ?_; go_wp2_with fail
       have hown : w7.ownsRow a5 3 1 (.slice (some ⟨bo, oo, none⟩) (k + 1) cv) (k + 1) (icells (nats (RL k))) := HKO.out
       have hz9 : a5 ≤ w7.heap.size := by omega
       refine tailL_mk (show Below a5 w7 _ from ((Below.refl a5 w7).alloc hz9 _).drew) ?_
       refine mixz_tail ?_
       go_wp2_with (at_builtin; refine wpList_append_sl _ rfl _ _ 48 rfl a5 3 _ 1 8 Tryz.underlying48 infoInt rfl (by omega) _ (k + 1) _ rfl ((hown.alloc _).drew) _ 1 1 [.int .i64 (RS (k + 1) : Int)] rfl (SlR.lit _ _ _ _ _ 1 1 (by rfl) (by simp) rfl (by omega)) (by simp [Value.oneCell']) (by omega) (by omega) (by show a5 ≤ (w7.alloc _).heap.size; rw [World.size_alloc]; omega) ?_)
       intro v2 w2' hown2 hgr2 hb2
       obtain ⟨av2, cv2, rfl, _, _⟩ := owns_slice hown2
       have HO9 := Lib.hid (show w2'.ownsRow a5 3 1 (.slice av2 (k + 1 + 1) cv2) (k + 1 + 1) (icells (nats (RL (k + 1)))) from by rw [HLk.out, icells_append]; exact hown2)
       have hb9 : Below a5 w7 w2' := (((Below.refl a5 w7).alloc hz9 _).drew).trans hb2
       have HB9 := Lib.hid (show Below a5 w5 w2' from HBr.out.trans hb9)
       have HC9 := Lib.hid (fun j (hj : j < k + 1) => show conE nb (c.getD j 0) = 0 from by
        by_cases hjk : j = k
        ·subst hjk; rw [HGX.out]; exact HN1.out
        ·exact HKC.out j (by omega))
       have HY9 := Lib.hid hb9
       clear hown2 hgr2 hb2 hown hb9
       go_wp2_with fail
       refine tailL_mk HY9.out ?_
       refine mixz_last ?_; go_wp2_with fail
       refine tailZ_end ?_
       go_wp2
       refine ⟨⟨k + 1, av2, cv2, rfl, by go_num, by omega, HC9, Lib.hid HS2.out.symm, HO9, HB9⟩, ?_⟩
       simp only [intOf]; omega
      ·have e1 := bne_iff_ne.2 h2
       have hs := HS.out
       rw [HR.out, if_pos h2] at hs
       injection hs with hs1 hs2
       have hv1 := HV.out
       rw [if_pos (by rw [hs2]; exact h2)] at hv1
       have HS1 := Lib.hid hs1
       have HS2 := Lib.hid hs2
       clear hs1 hs2 HS HR
       go_wp2
       go_ret3
       obtain rfl : XI = (k : Int) := HS1.out
       obtain rfl : XE = E7 := HS2.out
       exact ⟨none, 0, 0, rfl, HB.out, by rw [hv1]; exact IntsR.nil _ _⟩
     ·have e1 := bne_iff_ne.2 h1
      have hs := HS.out
      rw [HR.out, if_pos h1, if_pos h1] at hs
      injection hs with hs1 hs2
      have hv1 := HV.out
      rw [if_pos (by rw [hs2]; exact h1)] at hv1
      have HS1 := Lib.hid hs1
      have HS2 := Lib.hid hs2
      clear hs1 hs2 HS HR
      go_wp2
      go_ret3
      obtain rfl : XI = (k : Int) := HS1.out
      obtain rfl : XE = conE nb x := HS2.out
      exact ⟨none, 0, 0, rfl, HB.out, by rw [hv1]; exact IntsR.nil _ _⟩
    ·obtain rfl : k = n := by omega
     have i1 : ¬ ((k : Int) < (k : Int)) := by omega
     have hx2 := HKX.out
     rw [firstAt_end (Nat.le_refl _)] at hx2
     injection hx2 with hx1 hx2
     obtain rfl : XI = 0 := hx1.symm
     obtain rfl : XE = 0 := hx2.symm
     have hv1 := HV.out
     rw [if_neg (by exact fun h => h rfl)] at hv1
     clear hx1 hx2
     go_wp2
     go_ret3
     first | exact ⟨av, k + 1, ⟨cv, rfl⟩, HB.out, by first | exact SlR.of_owns HKO.out | (rw [hv1]; exact SlR.of_owns HKO.out)⟩ | exact ⟨av, k + 1, cv, rfl, HB.out, by first | exact SlR.of_owns HKO.out | (rw [hv1]; exact SlR.of_owns HKO.out)⟩
end Go.Proofs.YtppkckbnjnenfaaGreat
/- The contacts that may change: a row of one's own. -/
namespace Go.Proofs.YtppkckbnjnenfaaGreat
open Go.RowKit Go.Shelf
set_option linter.unusedVariables false
set_option linter.unusedSimpArgs false
attribute [local go_sem] Oper.semAt_some
set_option maxHeartbeats 1000000 in
set_option maxRecDepth 100000 in
theorem rMovesO_any (m : Mac) (s : Nat) (ab ag : Option Addr) (nb cb ng cg : Nat) (w : World) (hm : MacV m) (hnb : m.br.length = nb) (hg : GrR w ag ng m.gs) (hs : s < 64) :
    Calls Tryz.prog 67 #[.agg #[.slice ab nb cb, .int .i64 m.st, .slice ag ng cg], .int .i64 (s : Int)] w fun e' w' => ∃ a' n' c', e' = .returned (.slice a' n' c') ∧ Below w.heap.size w w' ∧ w'.ownsRow w.heap.size 3 1 (.slice a' n' c') n' (icells (nats (movL m s))) := by
 have hn6 : nb ≤ 6 := by rw [← hnb]; exact hm.n1
 have HMC := Lib.hid (fun (i : Nat) (hi : i < nb) (W : World) (hbw : Below w.heap.size w W) => rMayChange_any m s i ab ag nb cb ng cg W hm (hg.below hbw) hs (by omega))
 have HEN := Lib.hid (show movU m s nb = movL m s by rw [← hnb]; exact movU_all m s)
 clear hg hm hnb
 obtain ⟨st, hst⟩ : ∃ x, x = m.st := ⟨_, rfl⟩
 rw [← hst] at HMC ⊢
 clear hst
 go_enter Tryz.func67, Tryz.ntmps67
 go_wp2_with fail
 obtain ⟨w1, hW⟩ : ∃ w1, w1 = w.alloc (Obj.cells #[.slice ab nb cb, .int .i64 st, .slice ag ng cg] 45) := ⟨_, rfl⟩
 rw [← hW]
 have hb1 : Below w.heap.size w w1 := by rw [hW]; (first|exact bwg|go_size)
 have kM : w1.heap[w.heap.size]? = some (.cells #[.slice ab nb cb, .int .i64 st, .slice ag ng cg] 45) := by rw [hW]; exact heap_alloc_new _ _
 have HB1 := Lib.hid hb1
 clear hW hb1
 go_loopw [5, 6] (fun v x wr => ∃ (k q : Nat) (av : Option Addr) (cv : Nat), v = .slice av q cv ∧ x = .int .i64 (k : Int) ∧ k ≤ nb ∧ Hid (wr.ownsRow w1.heap.size 3 1 (.slice av q cv) q (icells (nats (movU m s k)))) ∧ Hid (Below w1.heap.size w1 wr)) (fun _ x _ => nb - (intOf x).toNat)
 case atStart => exact ⟨0, 0, none, 0, rfl, rfl, Nat.zero_le _, Lib.hid (World.ownsRow_nil _ _ _ _), Lib.hid (Below.refl _ _)⟩
 case round =>
  obtain ⟨k, q, av, cv, rfl, rfl, hk, hO, hB⟩ := hrel
  have k0 : (0 : Int) ≤ (k : Int) := by omega
  have km := blk_below kM hB.out
  obtain ⟨q0, q1, q2, lr0⟩ := blkc3 km
  clear km
  by_cases hlt : k < nb
  ·have k1 : (k : Int) < (nb : Int) := by omega
   have HMX := Lib.hid (HMC.out k hlt wr (HB1.out.trans (hB.out.mono HB1.out.size)))
   have hql : q ≤ 400 := by
    have e1 := hO.out.1
    have e2 := movU_len m s k
    simp only [icells, nats, List.length_map] at e1
    omega
   obtain ⟨mb, hmb⟩ : ∃ b, b = mayB m s k := ⟨_, rfl⟩
   rw [← hmb] at HMX
   have HMB := Lib.hid hmb
   clear hmb
   go_wp2_with fail
   refine (HMX.out).mono ?_
   rintro e5 w5 ⟨rfl, hb5⟩
   have HO5 := Lib.hid (owns_below hO.out hb5 (fun z hz => (hO.out.lt z hz).2))
   have HB5 := bwt hB hb5
   clear hb5 q0 q1 q2 lr0 HMX hO hB
   cases mb
   ·go_wp2_with fail
    go_roundw
    case rel => exact ⟨k + 1, q, av, cv, rfl, by go_num, by omega, by rw [movU_no HMB.out.symm]; exact HO5, HB5⟩
    case measure => simp [intOf]; omega
   ·have HL := Lib.hid (show icells (nats (movU m s (k + 1))) = icells (nats (movU m s k)) ++ [.int .i64 (k : Int)] by rw [movU_yes HMB.out.symm]; simp [nats, icells])
    go_wp2_with (at_builtin; refine wpList_append_sl _ rfl _ _ 48 rfl w1.heap.size 3 _ 1 8 Tryz.underlying48 infoInt rfl (by omega) (.slice av q cv) q _ rfl (HO5.out.alloc _) _ 1 1 [.int .i64 (k : Int)] rfl (SlR.lit _ _ _ _ _ 1 1 (by rfl) (by simp) rfl (by omega)) (by simp [Value.oneCell']) (by omega) (by omega) (by have := HB5.out.size; simp; omega) ?_)
    intro v2 w42 hown2 hgr2 hb2
    obtain ⟨av2, cv2, rfl, _, _⟩ := owns_slice hown2
    rw [← HL.out] at hown2
    have HO2 := Lib.hid hown2
    have HB2 := Lib.hid ((HB5.out.alloc HB5.out.size _).trans hb2)
    clear hown2 hgr2 hb2 HO5 HB5 HL
    go_wp2_with fail
    go_roundw
    case rel => exact ⟨k + 1, q + 1, av2, cv2, rfl, by go_num, by omega, HO2, HB2⟩
    case measure => simp [intOf]; omega
  ·obtain rfl : nb = k := by omega
   have HR := Lib.hid (show wr.ownsRow w.heap.size 3 1 (.slice av q cv) q (icells (nats (movL m s))) by rw [← HEN.out]; exact owns_mono (base' := w.heap.size) hO.out HB1.out.size)
   clear hO
   go_wp2
   go_ret
   exact ⟨av, q, cv, rfl, HB1.out.trans (hB.out.mono HB1.out.size), HR.out⟩
end Go.Proofs.YtppkckbnjnenfaaGreat
