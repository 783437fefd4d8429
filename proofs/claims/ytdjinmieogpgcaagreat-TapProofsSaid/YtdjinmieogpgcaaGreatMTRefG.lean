import Derived.Test.YtdjinmieogpgcaaGreatMTRefF
/- Safe states and safe changes in the reference. -/
namespace Go.Proofs.YtdjinmieogpgcaaGreat
open Go.RowKit Go.Shelf
set_option linter.unusedVariables false
set_option linter.unusedSimpArgs false
attribute [local go_sem] Oper.semAt_some
theorem bwhole6_any (n : Int) (w : World) : Calls Tryz.prog 37 #[.int .i64 n] w fun e' w' => e' = .returned (.agg #[.int .i64 n, .int .i64 1]) ∧ Below w.heap.size w w' := by
 go_enter Tryz.func37, Tryz.ntmps37
 go_wp2
 refine bodyPost_ret (v := .agg #[.int .i64 n, .int .i64 1]) (by simp [results, Tryz.results37, go_sem]) rfl ⟨rfl, by (first|exact bwg|go_size)⟩
theorem cmpJ_pos {a b c : Int} : 0 < cmpJ (a * 1) (c * b) ↔ c * b < a := by
 unfold cmpJ
 rw [Int.mul_one]
 split
 ·constructor <;> intro h <;> omega
 ·split
  ·constructor <;> intro h <;> omega
  ·constructor <;> intro h <;> omega
theorem cmpW {a b n : Int} (w : World) (ha : a.natAbs ≤ 1000000000000) (hb : 0 ≤ b ∧ b ≤ 1000000000) (hn : 0 ≤ n ∧ n ≤ 1000) : ∃ C : Int, (0 < C ↔ n * b < a) ∧ ∀ W : World, Calls Tryz.prog 85 #[.agg #[.int .i64 a, .int .i64 b], .agg #[.int .i64 n, .int .i64 1]] W (fun e' w' => e' = .returned (.int .i64 C) ∧ Below W.heap.size W w') := by
 refine ⟨_, cmpJ_pos (b := b) (c := n), fun W => bcmpJ_any a b n 1 W (by omega) ?_⟩
 have h1 := Int.mul_nonneg hn.1 hb.1
 have h2 : n * b ≤ 1000 * 1000000000 := Int.mul_le_mul hn.2 hb.2 hb.1 (by decide)
 omega
set_option maxHeartbeats 2000000 in
set_option maxRecDepth 100000 in
theorem rcheckState_any (m : Mac) (l : Lim) (s : Nat) (ab ag : Option Addr) (nb cb ng cg : Nat) (w : World) (hm : MacV m) (hl : limE l = 0) (hb : BrR w ab nb m.br) (hs : s < 2 ^ nb) :
    Calls Tryz.prog 57 #[.agg #[.slice ab nb cb, .int .i64 m.st, .slice ag ng cg], .agg #[.int .i64 l.volt, .int .i64 l.lo, .int .i64 l.hi, .int .i64 l.circ, .int .i64 l.brk, .int .i64 l.ret], .int .i64 (s : Int)] w fun e' w' => e' = .returned (.int .i64 (safE m l s)) ∧ Below w.heap.size w w' := by
 have hlen := hb.len
 have hlz := limE_zero.1 hl
 have HCE := Lib.hid (fun (W : World) (hbw : Below w.heap.size w W) => rCurrentsErr_any m s ab ag nb cb ng cg W hm (hb.below hbw) hs)
 have HEL := Lib.hid (fun (h : curE m s = 0) => show ElV m l s 0 from ⟨hm, hlz.1, by decide, by rw [hlen]; exact hs, curE_s0 h⟩)
 have HCI := Lib.hid (fun (h : curE m s = 0) (W : World) (hbw : Below w.heap.size w W) => rcirculating_any m l s ab ag nb cb ng cg W (hb.below hbw) (HEL.out h))
 have HCM := Lib.hid (fun (h : curE m s = 0) => show ∃ C : Int, (0 < C ↔ l.circ * (cirA m l s).2 < (cirA m l s).1) ∧ ∀ W : World, Calls Tryz.prog 85 #[.agg #[.int .i64 (cirA m l s).1, .int .i64 (cirA m l s).2], .agg #[.int .i64 l.circ, .int .i64 1]] W (fun e' w' => e' = .returned (.int .i64 C) ∧ Below W.heap.size W w') from by
  have he := HEL.out h
  have hbd := cirF_bd he (k := m.br.length) (Nat.le_refl _)
  have hsm := cirA_small he
  refine cmpW w ?_ ?_ hlz.2.2.1
  ·show (sz (cirF m l s m.br.length).1).natAbs ≤ _
   unfold sz
   omega
  ·show 0 ≤ (cirF m l s m.br.length).2 ∧ (cirF m l s m.br.length).2 ≤ 1000000000
   omega)
 have hV : safE m l s = if curE m s ≠ 0 then curE m s else if l.circ * (cirA m l s).2 < (cirA m l s).1 then 22 else 0 := rfl
 obtain ⟨V, hVV⟩ : ∃ V, V = safE m l s := ⟨_, rfl⟩
 rw [← hVV] at hV ⊢
 generalize curE m s = CE at *
 generalize cirA m l s = CA at *
 obtain ⟨vo, lo, hi', ci, br, re⟩ := l
 obtain ⟨st, hst⟩ : ∃ x, x = m.st := ⟨_, rfl⟩
 rw [← hst] at HCE HCI ⊢
 obtain ⟨cn, cd⟩ := CA
 simp only at HCE HCI HCM hV ⊢
 have HV := Lib.hid hV
 clear hb hst hV hVV hm hl hs hlen HEL hlz
 go_enter Tryz.func57, Tryz.ntmps57
 go_wp2_with fail
 obtain ⟨w1, hW⟩ : ∃ w1, w1 = ((w.alloc (Obj.cells #[.slice ab nb cb, .int .i64 st, .slice ag ng cg] 45)).alloc (Obj.cells #[.int .i64 vo, .int .i64 lo, .int .i64 hi', .int .i64 ci, .int .i64 br, .int .i64 re] 47)) := ⟨_, rfl⟩
 obtain ⟨hb1, k4, k5⟩ := alc2 w (Obj.cells #[.slice ab nb cb, .int .i64 st, .slice ag ng cg] 45) (Obj.cells #[.int .i64 vo, .int .i64 lo, .int .i64 hi', .int .i64 ci, .int .i64 br, .int .i64 re] 47)
 rw [← hW] at hb1 k4 k5
 obtain ⟨X4, hX4⟩ : ∃ X, X = w.heap.size := ⟨_, rfl⟩
 obtain ⟨X5, hX5⟩ : ∃ X, X = w.heap.size + 1 := ⟨_, rfl⟩
 rw [← hX5] at k5
 have k4 : BlkR w1 X4 (.cells #[.slice ab nb cb, .int .i64 st, .slice ag ng cg] 45) := by rw [hX4]; exact k4
 have K4 := Lib.hid k4
 have K5 := Lib.hid k5
 have HB1 := Lib.hid hb1
 clear k4 k5 hb1
 rw [← hW]
 simp only [← hX5]
 simp only [← hX4]
 clear hW hX4 hX5
 obtain ⟨q0, q1, q2, _⟩ := blkc3 K4.out
 obtain ⟨u0, u1, u2, u3, u4, u5, _⟩ := blkc6 K5.out
 have l4 := K4.out.lt
 have l5 := K5.out.lt
 go_wp2_with fail
 refine (HCE.out _ HB1.out).mono ?_
 rintro e5 w5 ⟨rfl, hb5⟩
 have HB := bwt HB1 hb5
 have K4 := Lib.hid (K4.out.below hb5)
 have K5 := Lib.hid (K5.out.below hb5)
 clear q0 q1 q2 u0 u1 u2 u3 u4 u5 l4 l5
 clear hb5 HCE HB1
 obtain ⟨q0, q1, q2, _⟩ := blkc3 K4.out
 obtain ⟨u0, u1, u2, u3, u4, u5, _⟩ := blkc6 K5.out
 have l4 := K4.out.lt
 have l5 := K5.out.lt
 by_cases h0 : CE = 0
 ·subst h0
  have HVN := Lib.hid (show V = if ci * cd < cn then 22 else 0 by rw [HV.out, if_neg (by simp)])
  obtain ⟨C, hC, hCM⟩ := HCM.out (by trivial)
  have HCY := Lib.hid hCM
  have HCN := Lib.hid (fun (W : World) (hbw : Below w5.heap.size w5 W) => HCI.out (by trivial) W (HB.out.trans (hbw.mono HB.out.size)))
  have HWH := Lib.hid (fun (W : World) => bwhole6_any ci W)
  by_cases hx : ci * cd < cn
  ·have hC0 : (0 : Int) < C := hC.2 hx
   have HVX := Lib.hid (show V = 22 by rw [HVN.out, if_pos hx])
   clear hx HVN HCM HCI HV hC hCM
   go_wp2_with fail
   refine later_all (by kernel_rfl) (by kernel_rfl) ?_; repeat go_big_quiet_step(first | with_reducible exact calls_later (HCN.out _ (Later.below _)) | with_reducible exact calls_later (HWH.out _) | with_reducible exact calls_later (HCY.out _))
   refine wpQuiet_nil ?_; intro w9 hb9
   have HB := bwt HB hb9
   clear hb9
   go_wp2
   go_ret
   exact ⟨ret_int (by rw [HVX.out]), HB.out⟩
  ·have hC0 : ¬ (0 : Int) < C := fun h => hx (hC.1 h)
   have HVX := Lib.hid (show V = 0 by rw [HVN.out, if_neg hx])
   clear hx HVN HCM HCI HV hC hCM
   go_wp2_with fail
   refine later_all (by kernel_rfl) (by kernel_rfl) ?_; repeat go_big_quiet_step(first | with_reducible exact calls_later (HCN.out _ (Later.below _)) | with_reducible exact calls_later (HWH.out _) | with_reducible exact calls_later (HCY.out _))
   refine wpQuiet_nil ?_; intro w9 hb9
   have HB := bwt HB hb9
   clear hb9
   go_wp2
   go_ret
   exact ⟨ret_int (by rw [HVX.out]), HB.out⟩
 ·have HVN := Lib.hid (show V = CE by rw [HV.out, if_pos h0])
  have e1 := bne_iff_ne.2 h0
  clear h0 HCI HV HCM
  go_wp2
  go_ret
  exact ⟨ret_int (by rw [HVN.out]), HB.out⟩
set_option maxHeartbeats 4000000 in
set_option maxRecDepth 100000 in
theorem rcheckMove_any (m : Mac) (l : Lim) (s i : Nat) (ab ag : Option Addr) (nb cb ng cg : Nat) (w : World) (hm : MacV m) (hl : limE l = 0) (hb : BrR w ab nb m.br) (hg : GrR w ag ng m.gs) (hs : s < 2 ^ nb) (hi : i < nb) :
    Calls Tryz.prog 59 #[.agg #[.slice ab nb cb, .int .i64 m.st, .slice ag ng cg], .agg #[.int .i64 l.volt, .int .i64 l.lo, .int .i64 l.hi, .int .i64 l.circ, .int .i64 l.brk, .int .i64 l.ret], .int .i64 (s : Int), .int .i64 (i : Int)] w fun e' w' => e' = .returned (.int .i64 (chgE m l s i)) ∧ Below w.heap.size w w' := by
 have hlen := hb.len
 have hn6 : nb ≤ 6 := by rw [← hlen]; exact hm.n1
 have hlz := limE_zero.1 hl
 have hs64 : s < 64 := Nat.lt_of_lt_of_le hs (Nat.le_trans (Nat.pow_le_pow_right (by omega) hn6) (by decide))
 have hts : trn s i < 2 ^ nb := trn_lt hn6 hs hi
 have HMY := Lib.hid (fun (W : World) (hbw : Below w.heap.size w W) => rMayChange_any m s i ab ag nb cb ng cg W hm (hg.below hbw) hs64 (by omega))
 have HIC := Lib.hid (fun w' => isClosed_any s i w' hs64 (by omega))
 have HCH := Lib.hid (fun w' => changed_any s i w' hs64 (by omega))
 have HC1 := Lib.hid (fun (W : World) (hbw : Below w.heap.size w W) => rCurrentsErr_any m s ab ag nb cb ng cg W hm (hb.below hbw) hs)
 have HCS := Lib.hid (fun (W : World) (hbw : Below w.heap.size w W) => rcheckState_any m l (trn s i) ab ag nb cb ng cg W hm hl (hb.below hbw) hts)
 have HBK := Lib.hid (fun (load : Int) (hd : -1000 ≤ load ∧ load ≤ 1000) (h0 : curE m s = 0) (h1 : safE m l (trn s i) = 0) (ht : s.testBit i = true) (W : World) (hbw : Below w.heap.size w W) => show Calls Tryz.prog 87 #[.agg #[.slice ab nb cb, .int .i64 m.st, .slice ag ng cg], .agg #[.int .i64 l.volt, .int .i64 l.lo, .int .i64 l.hi, .int .i64 l.circ, .int .i64 l.brk, .int .i64 l.ret], .int .i64 (s : Int), .int .i64 (i : Int), .int .i64 load] W (fun e' w' => e' = .returned (.tuple #[.agg #[.int .i64 (brkC m l s i load).1, .int .i64 (brkC m l s i load).2, .int .i64 (brkV m l s i load).1, .int .i64 (brkV m l s i load).2], .int .i64 0]) ∧ Below W.heap.size W w') from by
  have hz : rbrE m s i = 0 := by unfold rbrE; rw [if_neg (by rw [ht]; decide), if_neg (by rw [h0]; decide)]; exact safE_cur h1
  have h := rbreak_any m l s i load ab ag nb cb ng cg W hm hlz.1 hd (hb.below hbw) hs hi
  unfold rbrV at h
  rw [hz, if_pos rfl] at h
  exact h)
 have HCM := Lib.hid (fun (load : Int) (hd : -1000 ≤ load ∧ load ≤ 1000) (h0 : curE m s = 0) (h1 : safE m l (trn s i) = 0) => show (∃ C : Int, (0 < C ↔ l.brk * (brkC m l s i load).2 < (brkC m l s i load).1) ∧ ∀ W : World, Calls Tryz.prog 85 #[.agg #[.int .i64 (brkC m l s i load).1, .int .i64 (brkC m l s i load).2], .agg #[.int .i64 l.brk, .int .i64 1]] W (fun e' w' => e' = .returned (.int .i64 C) ∧ Below W.heap.size W w')) ∧ ∃ C : Int, (0 < C ↔ l.ret * (brkV m l s i load).2 < (brkV m l s i load).1) ∧ ∀ W : World, Calls Tryz.prog 85 #[.agg #[.int .i64 (brkV m l s i load).1, .int .i64 (brkV m l s i load).2], .agg #[.int .i64 l.ret, .int .i64 1]] W (fun e' w' => e' = .returned (.int .i64 C) ∧ Below W.heap.size W w') from by
  have he : ElV m l s load := ⟨hm, hlz.1, hd, by rw [hlen]; exact hs, curE_s0 h0⟩
  have he2 : ElV m l (trn s i) load := ⟨hm, hlz.1, hd, by rw [hlen]; exact hts, curE_s0 (safE_cur h1)⟩
  have b1 := curT_bd he (k := i) (by rw [hlen]; exact hi)
  have b2 := brkW_small he2 (i := i) (by rw [hlen]; exact hi)
  refine ⟨cmpW w ?_ ?_ hlz.2.2.2.1, cmpW w ?_ ?_ hlz.2.2.2.2⟩
  ·show (sz ((curT m l s load).getD i (0, 0)).1).natAbs ≤ _
   unfold sz
   omega
  ·show 0 ≤ ((curT m l s load).getD i (0, 0)).2 ∧ ((curT m l s load).getD i (0, 0)).2 ≤ _
   omega
  ·show (sz (brkW m l (trn s i) i load).1).natAbs ≤ _
   unfold sz
   omega
  ·show 0 ≤ (brkW m l (trn s i) i load).2 ∧ (brkW m l (trn s i) i load).2 ≤ _
   omega)
 have hLO : ∀ load, lodE m l s i load = if l.brk * (brkC m l s i load).2 < (brkC m l s i load).1 then 22 else if l.ret * (brkV m l s i load).2 < (brkV m l s i load).1 then 24 else 0 := fun _ => rfl
 have HLO := Lib.hid hLO
 have hV : chgE m l s i = if mayB m s i = false then 18 else if curE m s ≠ 0 then curE m s else if safE m l (trn s i) ≠ 0 then safE m l (trn s i)
  else if s.testBit i = false then 0 else if lodE m l s i l.lo ≠ 0 then lodE m l s i l.lo else lodE m l s i l.hi := rfl
 have hlo : (-1000 ≤ l.lo ∧ l.lo ≤ 1000) ∧ (-1000 ≤ l.hi ∧ l.hi ≤ 1000) := by omega
 generalize chgE m l s i = V at *
 generalize curE m s = CE at *
 generalize safE m l (trn s i) = SE at *
 generalize mayB m s i = MB at *
 generalize lodE m l s i = LE at *
 generalize brkC m l s i = BC at *
 generalize brkV m l s i = BV at *
 generalize htb : s.testBit i = TB at *
 obtain ⟨st, hst⟩ : ∃ x, x = m.st := ⟨_, rfl⟩
 rw [← hst] at HMY HC1 HCS HBK ⊢
 obtain ⟨vo, lo, hi', ci, br, re⟩ := l
 simp only at HMY HCS HBK HCM HLO hV hlo ⊢
 have HV := Lib.hid hV
 have HLD := Lib.hid hlo
 clear hb hg hst hV hLO hm hl hs hlen hlz hts htb hlo
 go_enter Tryz.func59, Tryz.ntmps59
 go_wp2_with fail
 obtain ⟨w1, hW⟩ : ∃ w1, w1 = ((w.alloc (Obj.cells #[.slice ab nb cb, .int .i64 st, .slice ag ng cg] 45)).alloc (Obj.cells #[.int .i64 vo, .int .i64 lo, .int .i64 hi', .int .i64 ci, .int .i64 br, .int .i64 re] 47)) := ⟨_, rfl⟩
 obtain ⟨hb1, k4, k5⟩ := alc2 w (Obj.cells #[.slice ab nb cb, .int .i64 st, .slice ag ng cg] 45) (Obj.cells #[.int .i64 vo, .int .i64 lo, .int .i64 hi', .int .i64 ci, .int .i64 br, .int .i64 re] 47)
 rw [← hW] at hb1 k4 k5
 obtain ⟨X4, hX4⟩ : ∃ X, X = w.heap.size := ⟨_, rfl⟩
 obtain ⟨X5, hX5⟩ : ∃ X, X = w.heap.size + 1 := ⟨_, rfl⟩
 rw [← hX5] at k5
 have k4 : BlkR w1 X4 (.cells #[.slice ab nb cb, .int .i64 st, .slice ag ng cg] 45) := by rw [hX4]; exact k4
 have K4 := Lib.hid k4
 have K5 := Lib.hid k5
 have HB1 := Lib.hid hb1
 clear k4 k5 hb1
 rw [← hW]
 simp only [← hX5]
 simp only [← hX4]
 clear hW hX4 hX5
 obtain ⟨q0, q1, q2, _⟩ := blkc3 K4.out
 obtain ⟨u0, u1, u2, u3, u4, u5, _⟩ := blkc6 K5.out
 have l4 := K4.out.lt
 have l5 := K5.out.lt
 go_wp2_with fail
 refine (HMY.out _ HB1.out).mono ?_
 rintro e5 w5 ⟨rfl, hb5⟩
 have HB := HB1
 have K4 := Lib.hid (K4.out.below hb5)
 have K5 := Lib.hid (K5.out.below hb5)
 have HB := bwt HB hb5
 clear hb5
 clear q0 q1 q2 u0 u1 u2 u3 u4 u5 l4 l5
 obtain ⟨q0, q1, q2, _⟩ := blkc3 K4.out
 obtain ⟨u0, u1, u2, u3, u4, u5, _⟩ := blkc6 K5.out
 have l4 := K4.out.lt
 have l5 := K5.out.lt
 clear HMY HB1
 cases MB
 ·have HVX := Lib.hid (show V = 18 by rw [HV.out, if_pos rfl])
  clear HV HC1 HCS HBK HCM HIC HCH HLO
  go_wp2
  go_ret
  exact ⟨ret_int (by rw [HVX.out]), HB.out⟩
 ·have HV2 := Lib.hid (HV.out.trans (if_neg (by decide)))
  clear HV
  go_wp2_with fail
  refine (HC1.out _ HB.out).mono ?_
  rintro e6 w6 ⟨rfl, hb6⟩
  have K4 := Lib.hid (K4.out.below hb6)
  have K5 := Lib.hid (K5.out.below hb6)
  have HB := bwt HB hb6
  clear hb6
  clear q0 q1 q2 u0 u1 u2 u3 u4 u5 l4 l5
  obtain ⟨q0, q1, q2, _⟩ := blkc3 K4.out
  obtain ⟨u0, u1, u2, u3, u4, u5, _⟩ := blkc6 K5.out
  have l4 := K4.out.lt
  have l5 := K5.out.lt
  clear HC1
  by_cases h0 : CE = 0
  ·subst h0
   have HV3 := Lib.hid (HV2.out.trans (if_neg (by simp)))
   have HCS2 := Lib.hid (fun (W : World) (hbw : Below w6.heap.size w6 W) => HCS.out W (HB.out.trans (hbw.mono HB.out.size)))
   clear HV2 HCS
   go_wp2_with fail
   refine later_all (by kernel_rfl) (by kernel_rfl) ?_; repeat go_big_quiet_step(first | with_reducible exact calls_later_same (HCH.out _) | with_reducible exact calls_later (HCS2.out _ (Later.below _)))
   refine wpQuiet_nil ?_; intro w7 hb7
   have K4 := Lib.hid (K4.out.below hb7)
   have K5 := Lib.hid (K5.out.below hb7)
   have HB := bwt HB hb7
   clear hb7
   clear q0 q1 q2 u0 u1 u2 u3 u4 u5 l4 l5
   obtain ⟨q0, q1, q2, _⟩ := blkc3 K4.out
   obtain ⟨u0, u1, u2, u3, u4, u5, _⟩ := blkc6 K5.out
   have l4 := K4.out.lt
   have l5 := K5.out.lt
   clear HCS2 HCH
   by_cases h1 : SE = 0
   ·subst h1
    have HV4 := Lib.hid (HV3.out.trans (if_neg (by simp)))
    clear HV3
    go_wp2_with fail
    refine (HIC.out _).mono ?_
    rintro e8 w8 ⟨rfl, rfl⟩
    cases TB
    ·have HVX := Lib.hid (show V = 0 by rw [HV4.out, if_pos rfl])
     clear HV4 HBK HCM HIC HLO
     go_wp2
     go_ret
     exact ⟨ret_int (by rw [HVX.out]), HB.out⟩
    ·have HV5 := Lib.hid (HV4.out.trans (if_neg (by decide)))
     have HBK2 := Lib.hid (fun load hd W hbw => HBK.out load hd (by first | rfl | trivial) (by first | rfl | trivial) (by first | rfl | trivial) W hbw)
     have HCM2 := Lib.hid (fun load hd => HCM.out load hd (by first | rfl | trivial) (by first | rfl | trivial))
     clear HV4 HBK HCM HIC
     go_wp2_with fail
     obtain ⟨w9, hW⟩ : ∃ w9, w9 = w7.alloc (Obj.cells #[.int .i64 lo, .int .i64 hi'] 3) := ⟨_, rfl⟩
     rw [← hW]
     have hb9 : Below w7.heap.size w7 w9 := by rw [hW]; (first|exact bwg|go_size)
     have k11 : BlkR w9 w7.heap.size (.cells #[.int .i64 lo, .int .i64 hi'] 3) := by show w9.heap[w7.heap.size]? = _; rw [hW]; exact heap_alloc_new _ _
     obtain ⟨X11, hX11⟩ : ∃ X, X = w7.heap.size := ⟨_, rfl⟩
     rw [← hX11] at k11
     simp only [← hX11]
     have K11 := Lib.hid k11
     clear hW hX11 k11
     have K4 := Lib.hid (K4.out.below hb9)
     have K5 := Lib.hid (K5.out.below hb9)
     have HB := bwt HB hb9
     clear hb9
     clear q0 q1 q2 u0 u1 u2 u3 u4 u5 l4 l5
     obtain ⟨q0, q1, q2, _⟩ := blkc3 K4.out
     obtain ⟨u0, u1, u2, u3, u4, u5, _⟩ := blkc6 K5.out
     have l4 := K4.out.lt
     have l5 := K5.out.lt
     clear q0 q1 q2 u0 u1 u2 u3 u4 u5 l4 l5
     have J4 := K4
     have J5 := K5
     go_loopw [12] (fun x wr => ∃ k : Nat, x = .int .i64 (k : Int) ∧ k ≤ 2 ∧ Hid (1 ≤ k → LE lo = 0) ∧ Hid (2 ≤ k → LE hi' = 0) ∧ Hid (Below w9.heap.size w9 wr)) (fun x _ => 2 - (intOf x).toNat)
     case atStart => exact ⟨0, rfl, by omega, Lib.hid (fun h => absurd h (by omega)), Lib.hid (fun h => absurd h (by omega)), Lib.hid (Below.refl _ _)⟩
     case round =>
      obtain ⟨k, rfl, hk, H1, H2, HBr⟩ := hrel
      have i0 : (0 : Int) ≤ (k : Int) := by omega
      by_cases hlt : k < 2
      ·have i1 : (k : Int) < 2 := by omega
       have K11 := Lib.hid (K11.out.below HBr.out)
       have HX : ∃ L, (-1000 ≤ L ∧ L ≤ 1000) ∧ wr.cell? ⟨X11, k, none⟩ = some (.int .i64 L) ∧ (LE L ≠ 0 → V = LE L) ∧ (LE L = 0 → (1 ≤ k + 1 → LE lo = 0) ∧ (2 ≤ k + 1 → LE hi' = 0)) := by
        obtain rfl | rfl : k = 0 ∨ k = 1 := by omega
        ·exact ⟨lo, HLD.out.1, blk_cell K11.out (i := 0) rfl, fun h => by rw [HV5.out, if_pos h], fun h => ⟨fun _ => h, fun h2 => absurd h2 (by omega)⟩⟩
        ·exact ⟨hi', HLD.out.2, blk_cell K11.out (i := 1) rfl, fun h => by rw [HV5.out, if_neg (by rw [H1.out (by omega)]; decide)], fun h => ⟨fun _ => H1.out (by omega), fun _ => h⟩⟩
       obtain ⟨L, hL, hcl, hVL, hNL⟩ := HX
       obtain ⟨⟨C1, hC1, hCM1⟩, C2, hC2, hCM2⟩ := HCM2.out L hL
       have HBL := Lib.hid (HBK2.out L hL)
       have HLL := Lib.hid (HLO.out L)
       have HC1 := Lib.hid hC1
       have HC2 := Lib.hid hC2
       have HM1 := Lib.hid hCM1
       have HM2 := Lib.hid hCM2
       have HVL := Lib.hid hVL
       have HNL := Lib.hid hNL
       have HWB := Lib.hid (fun (W : World) => bwhole6_any br W)
       have HWR := Lib.hid (fun (W : World) => bwhole6_any re W)
       have HBx := bwt HB HBr.out
       have K4 := Lib.hid (J4.out.below HBr.out)
       have K5 := Lib.hid (J5.out.below HBr.out)
       have l11 := K11.out.lt
       generalize LE L = LL at *
       obtain ⟨q0, q1, q2, _⟩ := blkc3 K4.out
       obtain ⟨u0, u1, u2, u3, u4, u5, _⟩ := blkc6 K5.out
       have l4 := K4.out.lt
       have l5 := K5.out.lt
       clear hC1 hC2 hCM1 hCM2 hVL hNL HCM2 HBK2 HLO HV5 H1 H2 K11
       go_wp2_with fail
       go_cut [13, 14] from 53 to 63 (fun v13 v14 wx => ∃ X9 : Nat, v13 = .pointer (some ⟨X9, 0, none⟩) ∧ v14 = .int .i64 0 ∧ Hid (BlkR wx X9 (.cells #[.int .i64 (BC L).1, .int .i64 (BC L).2, .int .i64 (BV L).1, .int .i64 (BV L).2] 148)) ∧ Hid (Below wr.heap.size wr wx))
       case first =>
        have HN := Lib.hid (Below.refl wr.heap.size wr).drew
        refine wp_region_laterT (B := wr.heap.size) (.head 0 (.head 1 (.head 2 (.head 3 (.head 4 (.head 5 (.head 6 (.head 7 (.two 8 (.head 9 (.head 10 (.head 11 (.one 12 (.one 13 (.head 14 .done)))))) 12 (.one 8 (.head 9 (.head 10 (.head 11 (.one 13 (.head 14 .done))))))))))))))) (by kernel_rfl) (by kernel_rfl) ?_
        repeat (refine tree_head rfl ?_; (show wpQuiet _ _ _ _ (_ :: _) _; go_big_quiet_step (fail)); refine wpQuiet_nil ?_)
        refine tree_two rfl rfl ?_ ?_
        ·go_wp2_with fail
         refine (HBL.out _ (HBx.out.trans (HN.out.mono HBx.out.size))).mono ?_
         rintro e11 wx1 ⟨rfl, hbx⟩
         have hzx := hbx.size
         have HN := bwt HN hbx
         clear hbx
         go_wp2_with fail
         refine tailL_mk HN.out ?_
         repeat (refine tree_head rfl ?_; (show wpQuiet _ _ _ _ (_ :: _) _; go_big_quiet_step (fail)); refine wpQuiet_nil ?_)
         refine tree_one rfl ?_
         go_wp2_with fail
         obtain ⟨X9, hX9, hNX, hx9, l9, hs9, hbx⟩ := xal HN.out (Obj.cells #[.int .i64 0, .int .i64 0, .int .i64 0, .int .i64 0] 148)
         try simp only [← hX9]
         generalize (wx1.alloc (Obj.cells #[.int .i64 0, .int .i64 0, .int .i64 0, .int .i64 0] 148)) = wx2 at *
         have HX9 := Lib.hid (And.intro hX9 hs9)
         have HN := bwt HN hbx
         clear hbx hX9 hs9
         refine tailL_mk HN.out ?_
         refine tree_one rfl ?_
         obtain ⟨c90, c91, c92, c93, f90, f91, f92, f93⟩ := xcf4 hx9
         go_wp2_with fail
         have hq9 := xst4 HN.out hNX hx9 (.int .i64 (BC L).1) (.int .i64 (BC L).2) (.int .i64 (BV L).1) (.int .i64 (BV L).2)
         have HN := Lib.hid hq9.1
         have hxo := hx9
         have hx9 := hq9.2
         clear hq9
         refine tailL_mk HN.out ?_
         repeat (refine tree_head rfl ?_; (show wpQuiet _ _ _ _ (_ :: _) _; go_big_quiet_step (fail)); refine wpQuiet_nil ?_)
         refine tree_done ?_
         go_wp2_with fail
         go_meet
         case rel => exact ⟨X9, rfl, by rfl, Lib.hid hx9, HN⟩
        ·go_wp2_with fail
         obtain ⟨X9, hX9, hNX, hx9, l9, hs9, hbx, hbd⟩ := xald HN.out (Obj.cells #[.int .i64 0, .int .i64 0, .int .i64 0, .int .i64 0] 148)
         try simp only [← hX9]
         generalize (wr.alloc (Obj.cells #[.int .i64 0, .int .i64 0, .int .i64 0, .int .i64 0] 148)).drew = wx4 at *
         have HX9 := Lib.hid (And.intro hX9 hs9)
         have HN := Lib.hid hbx
         clear hbx hX9 hs9 hbd
         refine tailL_mk HN.out ?_
         refine tree_one rfl ?_
         go_wp2_with fail
         refine (HBL.out _ (HBx.out.trans (HN.out.mono HBx.out.size))).mono ?_
         rintro e11 wx5 ⟨rfl, hbx⟩
         have hzx := hbx.size
         have HN := bwt HN hbx
         have hx9 := (hbx.block X9 l9).trans hx9
         have l9 := Nat.lt_of_lt_of_le l9 hbx.size
         clear hbx
         go_wp2_with fail
         refine tailL_mk HN.out ?_
         repeat (refine tree_head rfl ?_; (show wpQuiet _ _ _ _ (_ :: _) _; go_big_quiet_step (fail)); refine wpQuiet_nil ?_)
         refine tree_one rfl ?_
         obtain ⟨c90, c91, c92, c93, f90, f91, f92, f93⟩ := xcf4 hx9
         go_wp2_with fail
         have hq9 := xst4 HN.out hNX hx9 (.int .i64 (BC L).1) (.int .i64 (BC L).2) (.int .i64 (BV L).1) (.int .i64 (BV L).2)
         have HN := Lib.hid hq9.1
         have hxo := hx9
         have hx9 := hq9.2
         clear hq9
         refine tailL_mk HN.out ?_
         repeat (refine tree_head rfl ?_; (show wpQuiet _ _ _ _ (_ :: _) _; go_big_quiet_step (fail)); refine wpQuiet_nil ?_)
         refine tree_done ?_
         go_wp2_with fail
         go_meet
         case rel => exact ⟨X9, rfl, by rfl, Lib.hid hx9, HN⟩
       case rest =>
        obtain ⟨wy, rfl⟩ : ∃ w', w' = wc := ⟨wc, rfl⟩
        obtain ⟨X9, rfl, rfl, K9, HQ7⟩ := hcut
        have hb7 := HQ7.out
        have HBr := bwt HBr hb7
        have HBx := bwt HBx hb7
        have K4 := Lib.hid (K4.out.below hb7)
        have K5 := Lib.hid (K5.out.below hb7)
        clear q0 q1 q2 u0 u1 u2 u3 u4 u5 l4 l5
        clear hb7 HQ7 hcl l11 HBL
        obtain ⟨y0, y1, y2, y3, l9⟩ := blkc4 K9.out
        obtain ⟨u0, u1, u2, u3, u4, u5, l5⟩ := blkc6 K5.out
        by_cases x1 : 0 < C1
        ·have HVX := Lib.hid (show V = 22 from by
           have h := HLL.out.trans (if_pos (HC1.out.1 x1))
           rw [HVL.out (by rw [h]; decide), h])
         clear HC1 HC2 HLL HVL HNL HM2
         go_wp2_with fail
         refine later_all (by kernel_rfl) (by kernel_rfl) ?_; repeat go_big_quiet_step(first | with_reducible exact calls_later (HWB.out _) | with_reducible exact calls_later (HM1.out _))
         refine wpQuiet_nil ?_; intro wz hbz
         have HBz := bwt HBx hbz
         clear hbz
         go_wp2
         go_ret
         exact ⟨ret_int (by rw [HVX.out]), HBz.out⟩
        ·have HLM := Lib.hid (HLL.out.trans (if_neg (fun h => x1 (HC1.out.2 h))))
         clear HLL HC1
         go_wp2_with fail
         refine later_all (by kernel_rfl) (by kernel_rfl) ?_; repeat go_big_quiet_step(first | with_reducible exact calls_later (HWB.out _) | with_reducible exact calls_later (HM1.out _))
         refine wpQuiet_nil ?_; intro wz hbz
         have HBr := bwt HBr hbz
         have HBx := bwt HBx hbz
         have K4 := Lib.hid (K4.out.below hbz)
         have K5 := Lib.hid (K5.out.below hbz)
         have K9 := Lib.hid (K9.out.below hbz)
         clear y0 y1 y2 y3 l9 u0 u1 u2 u3 u4 u5 l5 hbz HM1 HWB
         obtain ⟨y0, y1, y2, y3, l9⟩ := blkc4 K9.out
         obtain ⟨u0, u1, u2, u3, u4, u5, l5⟩ := blkc6 K5.out
         by_cases x2 : 0 < C2
         ·have HVX := Lib.hid (show V = 24 from by
            have h := HLM.out.trans (if_pos (HC2.out.1 x2))
            rw [HVL.out (by rw [h]; decide), h])
          clear HC2 HLM HVL HNL
          go_wp2_with fail
          refine later_all (by kernel_rfl) (by kernel_rfl) ?_; repeat go_big_quiet_step(first | with_reducible exact calls_later (HWR.out _) | with_reducible exact calls_later (HM2.out _))
          refine wpQuiet_nil ?_; intro wz2 hbz
          have HBz := bwt HBx hbz
          clear hbz
          go_wp2
          go_ret
          exact ⟨ret_int (by rw [HVX.out]), HBz.out⟩
         ·have HN := Lib.hid (HNL.out (HLM.out.trans (if_neg (fun h => x2 (HC2.out.2 h)))))
          clear HC2 HLM HVL HNL
          go_wp2_with fail
          refine later_all (by kernel_rfl) (by kernel_rfl) ?_; repeat go_big_quiet_step(first | with_reducible exact calls_later (HWR.out _) | with_reducible exact calls_later (HM2.out _))
          refine wpQuiet_nil ?_; intro wz2 hbz
          have HBr := bwt HBr hbz
          clear hbz y0 y1 y2 y3 l9 u0 u1 u2 u3 u4 u5 l5
          go_wp2_with fail
          go_roundw
          case rel => exact ⟨k + 1, by go_num, by omega, Lib.hid HN.out.1, Lib.hid HN.out.2, HBr⟩
          case measure => simp [intOf]; omega
      ·obtain rfl : k = 2 := by omega
       have HVX := Lib.hid (show V = 0 by rw [HV5.out, if_neg (by rw [H1.out (by omega)]; decide)]; exact H2.out (by omega))
       clear HV5 HBK2 HCM2 HLO H1 H2
       go_wp2
       go_ret
       exact ⟨ret_int (by rw [HVX.out]), HB.out.trans (HBr.out.mono HB.out.size)⟩
   ·have HVX := Lib.hid (show V = SE by rw [HV3.out, if_pos h1])
    have e1 := bne_iff_ne.2 h1
    clear h1 HV3 HBK HCM HIC HLO
    go_wp2
    go_ret
    exact ⟨ret_int (by rw [HVX.out]), HB.out⟩
  ·have HVX := Lib.hid (show V = CE by rw [HV2.out, if_pos h0])
   have e1 := bne_iff_ne.2 h0
   clear h0 HV2 HCS HBK HCM HIC HCH HLO
   go_wp2
   go_ret
   exact ⟨ret_int (by rw [HVX.out]), HB.out⟩
end Go.Proofs.YtdjinmieogpgcaaGreat
/- Runs: the reference. -/
namespace Go.Proofs.YtdjinmieogpgcaaGreat
open Go.RowKit Go.Shelf
set_option linter.unusedVariables false
set_option linter.unusedSimpArgs false
attribute [local go_sem] Oper.semAt_some
end Go.Proofs.YtdjinmieogpgcaaGreat
/- The contacts that may change: a row of one's own. -/
namespace Go.Proofs.YtdjinmieogpgcaaGreat
open Go.RowKit Go.Shelf
set_option linter.unusedVariables false
set_option linter.unusedSimpArgs false
attribute [local go_sem] Oper.semAt_some
set_option maxHeartbeats 1000000 in
set_option maxRecDepth 100000 in
theorem rMovesO_any (m : Mac) (s : Nat) (ab ag : Option Addr) (nb cb ng cg : Nat) (w : World) (hm : MacV m) (hnb : m.br.length = nb) (hg : GrR w ag ng m.gs) (hs : s < 64) :
    Calls Tryz.prog 58 #[.agg #[.slice ab nb cb, .int .i64 m.st, .slice ag ng cg], .int .i64 (s : Int)] w fun e' w' => ∃ a' n' c', e' = .returned (.slice a' n' c') ∧ Below w.heap.size w w' ∧ w'.ownsRow w.heap.size 3 1 (.slice a' n' c') n' (icells (nats (movL m s))) := by
 have hn6 : nb ≤ 6 := by rw [← hnb]; exact hm.n1
 have HMC := Lib.hid (fun (i : Nat) (hi : i < nb) (W : World) (hbw : Below w.heap.size w W) => rMayChange_any m s i ab ag nb cb ng cg W hm (hg.below hbw) hs (by omega))
 have HEN := Lib.hid (show movU m s nb = movL m s by rw [← hnb]; exact movU_all m s)
 clear hg hm hnb
 obtain ⟨st, hst⟩ : ∃ x, x = m.st := ⟨_, rfl⟩
 rw [← hst] at HMC ⊢
 clear hst
 go_enter Tryz.func58, Tryz.ntmps58
 go_wp2_with fail
 obtain ⟨w1, hW⟩ : ∃ w1, w1 = w.alloc (Obj.cells #[.slice ab nb cb, .int .i64 st, .slice ag ng cg] 45) := ⟨_, rfl⟩
 rw [← hW]
 have hb1 : Below w.heap.size w w1 := by rw [hW]; (first|exact bwg|go_size)
 have kM : w1.heap[w.heap.size]? = some (.cells #[.slice ab nb cb, .int .i64 st, .slice ag ng cg] 45) := by rw [hW]; exact heap_alloc_new _ _
 have HB1 := Lib.hid hb1
 clear hW hb1
 go_loopw [5, 6] (fun v x wr => ∃ (k q : Nat) (av : Option Addr) (cv : Nat), v = .slice av q cv ∧ x = .int .i64 (k : Int) ∧ k ≤ nb ∧ Hid (wr.ownsRow w1.heap.size 3 1 (.slice av q cv) q (icells (nats (movU m s k)))) ∧ Hid (Below w1.heap.size w1 wr)) (fun _ x _ => nb - (intOf x).toNat)
 case atStart => exact ⟨0, 0, none, 0, rfl, rfl, Nat.zero_le _, Lib.hid (World.ownsRow_nil _ _ _ _), Lib.hid (Below.refl _ _)⟩
 case round =>
  obtain ⟨k, q, av, cv, rfl, rfl, hk, hO, hB⟩ := hrel
  have k0 : (0 : Int) ≤ (k : Int) := by omega
  have km := blk_below kM hB.out
  obtain ⟨q0, q1, q2, lr0⟩ := blkc3 km
  clear km
  by_cases hlt : k < nb
  ·have k1 : (k : Int) < (nb : Int) := by omega
   have HMX := Lib.hid (HMC.out k hlt wr (HB1.out.trans (hB.out.mono HB1.out.size)))
   have hql : q ≤ 400 := by
    have e1 := hO.out.1
    have e2 := movU_len m s k
    simp only [icells, nats, List.length_map] at e1
    omega
   obtain ⟨mb, hmb⟩ : ∃ b, b = mayB m s k := ⟨_, rfl⟩
   rw [← hmb] at HMX
   have HMB := Lib.hid hmb
   clear hmb
   go_wp2_with fail
   refine (HMX.out).mono ?_
   rintro e5 w5 ⟨rfl, hb5⟩
   have HO5 := Lib.hid (owns_below hO.out hb5 (fun z hz => (hO.out.lt z hz).2))
   have HB5 := bwt hB hb5
   clear hb5 q0 q1 q2 lr0 HMX hO hB
   cases mb
   ·go_wp2_with fail
    go_roundw
    case rel => exact ⟨k + 1, q, av, cv, rfl, by go_num, by omega, by rw [movU_no HMB.out.symm]; exact HO5, HB5⟩
    case measure => simp [intOf]; omega
   ·have HL := Lib.hid (show icells (nats (movU m s (k + 1))) = icells (nats (movU m s k)) ++ [.int .i64 (k : Int)] by rw [movU_yes HMB.out.symm]; simp [nats, icells])
    go_wp2_with (at_builtin; refine wpList_append_sl _ rfl _ _ 48 rfl w1.heap.size 3 _ 1 8 Tryz.underlying48 infoInt rfl (by omega) (.slice av q cv) q _ rfl (HO5.out.alloc _) _ 1 1 [.int .i64 (k : Int)] rfl (SlR.lit _ _ _ _ _ 1 1 (by rfl) (by simp) rfl (by omega)) (by simp [Value.oneCell']) (by omega) (by omega) (by have := HB5.out.size; simp; omega) ?_)
    intro v2 w42 hown2 hgr2 hb2
    obtain ⟨av2, cv2, rfl, _, _⟩ := owns_slice hown2
    rw [← HL.out] at hown2
    have HO2 := Lib.hid hown2
    have HB2 := Lib.hid ((HB5.out.alloc HB5.out.size _).trans hb2)
    clear hown2 hgr2 hb2 HO5 HB5 HL
    go_wp2_with fail
    go_roundw
    case rel => exact ⟨k + 1, q + 1, av2, cv2, rfl, by go_num, by omega, HO2, HB2⟩
    case measure => simp [intOf]; omega
  ·obtain rfl : nb = k := by omega
   have HR := Lib.hid (show wr.ownsRow w.heap.size 3 1 (.slice av q cv) q (icells (nats (movL m s))) by rw [← HEN.out]; exact owns_mono (base' := w.heap.size) hO.out HB1.out.size)
   clear hO
   go_wp2
   go_ret
   exact ⟨av, q, cv, rfl, HB1.out.trans (hB.out.mono HB1.out.size), HR.out⟩
end Go.Proofs.YtdjinmieogpgcaaGreat
