import Derived.Test.YtdjinmieogpgcaaGreatMTCirB
/- What a contact breaks in the reference. -/
namespace Go.Proofs.YtdjinmieogpgcaaGreat
open Go.RowKit Go.Shelf
set_option linter.unusedVariables false
set_option linter.unusedSimpArgs false
attribute [local go_sem] Oper.semAt_some
def rbrE (m : Mac) (s i : Nat) : Int := if s.testBit i = false then 20 else if curE m s ≠ 0 then curE m s else curE m (trn s i)
def rbrV (m : Mac) (l : Lim) (s i : Nat) (load : Int) : (Int × Int) × (Int × Int) := if rbrE m s i = 0 then (brkC m l s i load, brkV m l s i load) else ((0, 0), (0, 0))
def brkQ (m : Mac) (l : Lim) (s i : Nat) (load : Int) : Rat := ((volA m l i : Int) : Rat) - outQ m l (trn s i) load
theorem brkQ_frR {m : Mac} {l : Lim} {s i : Nat} {load : Int} (he : ElV m l (trn s i) load) : frR (brkQ m l s i load) = brkW m l (trn s i) i load := by
 have hD := he.vo.1
 unfold brkQ outQ brkW
 rw [← divInt_1 (volA m l i), Rat.divInt_sub_divInt _ _ (by decide) (by omega), frR_low (by rw [Int.one_mul]; exact hD)]
theorem brkW_small {m : Mac} {l : Lim} {s i : Nat} {load : Int} (he : ElV m l (trn s i) load) (hi : i < m.br.length) : (brkW m l (trn s i) i load).1.natAbs ≤ 1000000000 ∧ 0 < (brkW m l (trn s i) i load).2 ∧ (brkW m l (trn s i) i load).2 ≤ 1000000000 := by
 obtain ⟨d0, d1, hn⟩ := he.vo
 obtain ⟨v0, v1⟩ := vol_bd he.hm he.hl hi
 obtain ⟨_, p, q, r⟩ := low_props (a := volA m l i * (outT m l (trn s i) load).2 - (outT m l (trn s i) load).1 * 1) (b := 1 * (outT m l (trn s i) load).2) (by rw [Int.one_mul]; exact d0)
 unfold brkW
 have h1 : (volA m l i * (outT m l (trn s i) load).2).natAbs ≤ 1000 * 15120 := mulB (by omega) (by omega)
 refine ⟨?_, p, by omega⟩
 generalize volA m l i * (outT m l (trn s i) load).2 = x at *
 omega
set_option maxHeartbeats 4000000 in
set_option maxRecDepth 100000 in
theorem rbreak_any (m : Mac) (l : Lim) (s i : Nat) (load : Int) (ab ag : Option Addr) (nb cb ng cg : Nat) (w : World) (hm : MacV m) (hl : 0 ≤ l.volt ∧ l.volt ≤ 1000) (hd : -1000 ≤ load ∧ load ≤ 1000) (hb : BrR w ab nb m.br) (hs : s < 2 ^ nb) (hi : i < nb) :
    Calls Tryz.prog 87 #[.agg #[.slice ab nb cb, .int .i64 m.st, .slice ag ng cg], .agg #[.int .i64 l.volt, .int .i64 l.lo, .int .i64 l.hi, .int .i64 l.circ, .int .i64 l.brk, .int .i64 l.ret], .int .i64 (s : Int), .int .i64 (i : Int), .int .i64 load] w fun e' w' => e' = .returned (.tuple #[.agg #[.int .i64 (rbrV m l s i load).1.1, .int .i64 (rbrV m l s i load).1.2, .int .i64 (rbrV m l s i load).2.1, .int .i64 (rbrV m l s i load).2.2], .int .i64 (rbrE m s i)]) ∧ Below w.heap.size w w' := by
 have hn6 : nb ≤ 6 := by rw [← hb.len]; exact hm.n1
 have hlen := hb.len
 have hs64 : s < 64 := Nat.lt_of_lt_of_le hs (Nat.le_trans (Nat.pow_le_pow_right (by omega) hn6) (by decide))
 have hts : trn s i < 2 ^ nb := trn_lt hn6 hs hi
 have HIC := Lib.hid (fun w' => isClosed_any s i w' hs64 (by omega))
 have HCH := Lib.hid (fun w' => changed_any s i w' hs64 (by omega))
 have HC1 := Lib.hid (fun (W : World) (hbw : Below w.heap.size w W) => rCurrentsErr_any m s ab ag nb cb ng cg W hm (hb.below hbw) hs)
 have HC2 := Lib.hid (fun (W : World) (hbw : Below w.heap.size w W) => rCurrentsErr_any m (trn s i) ab ag nb cb ng cg W hm (hb.below hbw) hts)
 have HTVI := Lib.hid (fun (W : World) (hbw : Below w.heap.size w W) => tapVoltage_any m l i ab ag nb cb ng cg W hm (hb.below hbw) hl hi)
 have HE1 := Lib.hid (fun (h : curE m s = 0) => show ElV m l s load from ⟨hm, hl, hd, by rw [hlen]; exact hs, curE_s0 h⟩)
 have HE2 := Lib.hid (fun (h : curE m (trn s i) = 0) => show ElV m l (trn s i) load from ⟨hm, hl, hd, by rw [hlen]; exact hts, curE_s0 h⟩)
 have HOU := Lib.hid (fun (h : curE m (trn s i) = 0) (W : World) (hbw : Below w.heap.size w W) => routput_any m l (trn s i) load ab ag nb cb ng cg W (hb.below hbw) (HE2.out h))
 have HCU := Lib.hid (fun (h : curE m s = 0) (W : World) (hbw : Below w.heap.size w W) => rcurrents_any m l s load ab ag nb cb ng cg W (hb.below hbw) (HE1.out h))
 have HVA := Lib.hid (vol_bd hm hl (k := i) (by rw [hlen]; exact hi))
 have HSZ := Lib.hid (fun (h : curE m (trn s i) = 0) => show Sz 2 (outQ m l (trn s i) load) ∧ smallQ (brkQ m l s i load) = true ∧ (brkV m l s i load).1 = sz (brkQ m l s i load).num ∧ (brkV m l s i load).2 = ((brkQ m l s i load).den : Int) from by
  have he := HE2.out h
  obtain ⟨a1, a2, a3⟩ := he.vo
  have hf := brkQ_frR (s := s) (i := i) he
  have hbs := brkW_small he (i := i) (by rw [hlen]; exact hi)
  have e1 : (brkW m l (trn s i) i load).1 = (brkQ m l s i load).num := (congrArg Prod.fst hf).symm
  have e2 : (brkW m l (trn s i) i load).2 = ((brkQ m l s i load).den : Int) := (congrArg Prod.snd hf).symm
  refine ⟨sz_parts (by omega) (by omega), smallQ_of (a := (brkW m l (trn s i) i load).1) (b := (brkW m l (trn s i) i load).2) hf hbs.1 hbs.2, ?_, e2⟩
  unfold brkV
  rw [← e1])
 have HSZ2 := Lib.hid (fun (h : curE m s = 0) => show smallQ (zQ m l s load i) = true ∧ (brkC m l s i load).1 = sz (zQ m l s load i).num ∧ (brkC m l s i load).2 = ((zQ m l s load i).den : Int) from by
  have he := HE1.out h
  have hz := frR_z he (k := i) (by rw [hlen]; exact hi)
  have hbs := curT_bd he (k := i) (by rw [hlen]; exact hi)
  refine ⟨smallQ_of (a := ((curT m l s load).getD i (0, 0)).1) (b := ((curT m l s load).getD i (0, 0)).2) hz (by omega) (by omega), ?_, (congrArg Prod.snd hz).symm⟩
  unfold brkC
  rw [← hz]; rfl)
 have HQ := Lib.hid (show brkQ m l s i load = ((volA m l i : Int) : Rat) - outQ m l (trn s i) load from rfl)
 have hE : rbrE m s i = if s.testBit i = false then 20 else if curE m s ≠ 0 then curE m s else curE m (trn s i) := rfl
 have hV : rbrV m l s i load = if rbrE m s i = 0 then (brkC m l s i load, brkV m l s i load) else ((0, 0), (0, 0)) := rfl
 generalize rbrV m l s i load = V at *
 generalize rbrE m s i = E at *
 generalize outQ m l (trn s i) load = OQ at *
 generalize brkQ m l s i load = BQ at *
 generalize curE m s = CE1 at *
 generalize curE m (trn s i) = CE2 at *
 generalize brkC m l s i load = BC at *
 generalize brkV m l s i load = BV at *
 generalize volA m l i = VA at *
 generalize zQ m l s load = ZQ at *
 have HEE := Lib.hid hE
 have HV := Lib.hid hV
 obtain ⟨st, hst⟩ : ∃ x, x = m.st := ⟨_, rfl⟩
 rw [← hst] at HC1 HC2 HTVI HOU HCU ⊢
 clear hb hst hm hl hd HE1 HE2 hE hV hlen
 obtain ⟨vo, lo, hi', ci, br, re⟩ := l
 simp only at HTVI HOU HCU ⊢
 go_enter Tryz.func87, Tryz.ntmps87
 go_wp2_with fail
 obtain ⟨w1, hW⟩ : ∃ w1, w1 = ((w.alloc (Obj.cells #[.slice ab nb cb, .int .i64 st, .slice ag ng cg] 45)).alloc (Obj.cells #[.int .i64 vo, .int .i64 lo, .int .i64 hi', .int .i64 ci, .int .i64 br, .int .i64 re] 47)) := ⟨_, rfl⟩
 obtain ⟨hb1, k4, k5⟩ := alc2 w (Obj.cells #[.slice ab nb cb, .int .i64 st, .slice ag ng cg] 45) (Obj.cells #[.int .i64 vo, .int .i64 lo, .int .i64 hi', .int .i64 ci, .int .i64 br, .int .i64 re] 47)
 rw [← hW] at hb1 k4 k5
 obtain ⟨X4, hX4⟩ : ∃ X, X = w.heap.size := ⟨_, rfl⟩
 obtain ⟨X5, hX5⟩ : ∃ X, X = w.heap.size + 1 := ⟨_, rfl⟩
 rw [← hX5] at k5
 have k4 : BlkR w1 X4 (.cells #[.slice ab nb cb, .int .i64 st, .slice ag ng cg] 45) := by rw [hX4]; exact k4
 have K4 := Lib.hid k4
 have K5 := Lib.hid k5
 have HB1 := Lib.hid hb1
 clear k4 k5 hb1
 rw [← hW]
 obtain ⟨w2, hW2⟩ : ∃ w2, w2 = w1.alloc (Obj.cells #[.int .i64 0, .int .i64 0, .int .i64 0, .int .i64 0] 148) := ⟨_, rfl⟩
 rw [← hW2]
 have hb2 : Below w1.heap.size w1 w2 := by rw [hW2]; (first|exact bwg|go_size)
 have hsz : w1.heap.size = w.heap.size + 1 + 1 := by rw [hW]; simp
 have k8 : BlkR w2 (w.heap.size + 1 + 1) (.cells #[.int .i64 0, .int .i64 0, .int .i64 0, .int .i64 0] 148) := by
  show w2.heap[w.heap.size + 1 + 1]? = _
  rw [hW2, ← hsz]
  exact heap_alloc_new _ _
 obtain ⟨X8, hX8⟩ : ∃ X, X = w.heap.size + 1 + 1 := ⟨_, rfl⟩
 rw [← hX8] at k8
 simp only [← hX8]
 simp only [← hX5]
 simp only [← hX4]
 have hx8 : w.heap.size ≤ X8 := by omega
 have K4 := Lib.hid (K4.out.below hb2)
 have K5 := Lib.hid (K5.out.below hb2)
 have K8 := Lib.hid k8
 have HB := bwt HB1 hb2
 clear hX4 hX5 hX8 hW hW2 hb2 hsz HB1 k8
 refine (HIC.out _).mono ?_
 rintro ex w3 ⟨rfl, rfl⟩
 obtain ⟨tb, htb⟩ : ∃ tb, tb = s.testBit i := ⟨_, rfl⟩
 rw [← htb] at HEE ⊢
 clear htb HIC
 cases tb
 ·have HE0 := Lib.hid (show E = 20 from HEE.out.trans (if_pos rfl))
  have HV0 := Lib.hid (show V = ((0, 0), (0, 0)) from by rw [HV.out, if_neg (by rw [HE0.out]; decide)])
  clear HEE HV HC1 HC2 HCU HOU HSZ HSZ2 HQ
  obtain ⟨d80, d81, d82, d83, _⟩ := blkc4 K8.out
  have f80 := blk_fz K8.out 0
  have f81 := blk_fz K8.out 1
  have f82 := blk_fz K8.out 2
  have f83 := blk_fz K8.out 3
  have l8 := K8.out.lt
  go_wp2
  refine bodyPost_ret (v := .tuple #[.agg #[.int .i64 0, .int .i64 0, .int .i64 0, .int .i64 0], .int .i64 20]) ?_ rfl ⟨by rw [HV0.out, HE0.out], set4_below HB.out hx8 _ _ _ _⟩
  have kw := set4_same K8.out (.int .i64 0) (.int .i64 0) (.int .i64 0) (.int .i64 0)
  unfold set4 at kw
  generalize World.setCell (World.setCell (World.setCell (World.setCell _ _ _) _ _) _ _) _ _ = wz at *
  obtain ⟨e80, e81, e82, e83, _⟩ := blkc4 kw
  simp [results, Tryz.results87, go_sem, e80, e81, e82, e83]
 ·have HEE := Lib.hid (HEE.out.trans (if_neg (by decide)))
  obtain ⟨q0, q1, q2, _⟩ := blkc3 K4.out
  obtain ⟨u0, u1, u2, u3, u4, u5, _⟩ := blkc6 K5.out
  have l4 := K4.out.lt
  have l5 := K5.out.lt
  go_wp2_with fail
  refine (HC1.out _ HB.out).mono ?_
  rintro ex w4 ⟨rfl, hb4⟩
  have K4 := Lib.hid (K4.out.below hb4)
  have K5 := Lib.hid (K5.out.below hb4)
  have K8 := Lib.hid (K8.out.below hb4)
  have HB := bwt HB hb4
  clear hb4
  clear q0 q1 q2 u0 u1 u2 u3 u4 u5 l4 l5
  obtain ⟨q0, q1, q2, _⟩ := blkc3 K4.out
  obtain ⟨u0, u1, u2, u3, u4, u5, _⟩ := blkc6 K5.out
  have l4 := K4.out.lt
  have l5 := K5.out.lt
  by_cases h1 : CE1 = 0
  ·subst h1
   have HEF := Lib.hid (HEE.out.trans (if_neg (by simp)))
   have HCV := Lib.hid (HCU.out (by trivial))
   have HSZ3 := Lib.hid (HSZ2.out (by trivial))
   clear HEE HCU HSZ2
   go_wp2_with fail
   refine (HCH.out _).mono ?_
   rintro ex w5 ⟨rfl, rfl⟩
   go_wp2_with fail
   refine (HC2.out _ HB.out).mono ?_
   rintro ex w6 ⟨rfl, hb6⟩
   have K4 := Lib.hid (K4.out.below hb6)
   have K5 := Lib.hid (K5.out.below hb6)
   have K8 := Lib.hid (K8.out.below hb6)
   have HB := bwt HB hb6
   clear hb6
   clear q0 q1 q2 u0 u1 u2 u3 u4 u5 l4 l5
   obtain ⟨q0, q1, q2, _⟩ := blkc3 K4.out
   obtain ⟨u0, u1, u2, u3, u4, u5, _⟩ := blkc6 K5.out
   have l4 := K4.out.lt
   have l5 := K5.out.lt
   by_cases h2 : CE2 = 0
   ·subst h2
    have HVV := Lib.hid (HV.out.trans (if_pos HEF.out))
    have HOV := Lib.hid (HOU.out (by trivial))
    clear HOU
    have HSX := Lib.hid (HSZ.out (by trivial))
    have HE0 := HEF
    clear HSZ HV HEF
    have hva := HVA.out
    go_wp2_with fail
    go_cut [15] from 38 to 48 (fun v15 wx => ∃ (X : Nat) (s9 t9 : Int) (a9 b9 : Option Addr) (n9 c9 m9 d9 : Nat), v15 = .pointer (some ⟨X, 0, none⟩) ∧ Hid (BlkR wx X (.cells #[.int .i64 s9, .slice a9 n9 c9, .int .i64 t9, .slice b9 m9 d9] 174)) ∧ w6.heap.size ≤ X ∧ Hid (RB wx (.agg #[.int .i64 s9, .slice a9 n9 c9, .int .i64 t9, .slice b9 m9 d9]) BQ) ∧ Hid (Below w6.heap.size w6 wx))
    case first =>
     have HN := Lib.hid (Below.refl w6.heap.size w6).drew
     refine wp_region_laterT (B := w6.heap.size) (.head 0 (.head 1 (.head 2 (.head 5 (.head 6 (.head 7 (.head 8 (.two 3 (.two 4 (.two 9 (.two 10 (.one 11 (.one 12 .done)) 11 (.one 10 (.one 12 .done))) 11 (.one 9 (.one 10 (.one 12 .done)))) 11 (.one 4 (.one 9 (.one 10 (.one 12 .done))))) 11 (.one 3 (.one 4 (.one 9 (.one 10 (.one 12 .done))))))))))))) (by kernel_rfl) (by kernel_rfl) ?_
     repeat (refine tree_head rfl ?_; (show wpQuiet _ _ _ _ (_ :: _) _; go_big_quiet_step (fail)); refine wpQuiet_nil ?_)
     refine tree_two rfl rfl ?_ ?_
     ·go_wp2_with fail
      refine (HTVI.out _ (HB.out.trans (HN.out.mono HB.out.size))).mono ?_
      rintro e11 wx1 ⟨rfl, hbx⟩
      have hzx := hbx.size
      have HN := bwt HN hbx
      clear hbx
      go_wp2_with fail
      refine tailL_mk HN.out ?_
      refine tree_two rfl rfl ?_ ?_
      ·go_wp2_with fail
       refine (rb_int VA _ (by omega) (by omega)).mono ?_
       rintro ex wx2 ⟨sA, aA, nA, cA, tA, bA, mA, dA, rfl, hbx, hA, hAs⟩
       have HA := Lib.hid hA
       have HS := Lib.hid hAs.out.here
       clear hA hAs
       have hzx := hbx.size
       have HN := bwt HN hbx
       clear hbx
       go_wp2_with fail
       refine tailL_mk HN.out ?_
       refine tree_two rfl rfl ?_ ?_
       ·go_wp2_with fail
        refine (HOV.out _ (HB.out.trans (HN.out.mono HB.out.size))).mono ?_
        rintro ex wx3 ⟨sC, aC, nC, cC, tC, bC, mC, dC, rfl, hbx, hC, hCs⟩
        have HC := Lib.hid hC
        have HS := Lib.hid hCs.out.here
        clear hC hCs
        have hzx := hbx.size
        have HN := bwt HN hbx
        have HA := Lib.hid (HA.out.below hbx)
        clear hbx
        go_wp2_with fail
        refine tailL_mk HN.out ?_
        refine tree_two rfl rfl ?_ ?_
        ·go_wp2_with fail
         refine (rb_sub _ _ _ _ 1 2 _ HA.out HC.out (sz_int (by omega) (by omega)) HSX.out.1 (by omega)).mono ?_
         rintro ex wx4 ⟨sD, aD, nD, cD, tD, bD, mD, dD, rfl, hbx, hD, hDs⟩
         have HD := Lib.hid hD
         have HS := Lib.hid hDs.out.here
         clear hD hDs
         have hzx := hbx.size
         have HN := bwt HN hbx
         have HA := Lib.hid (HA.out.below hbx)
         have HC := Lib.hid (HC.out.below hbx)
         clear hbx
         go_wp2_with fail
         refine tailL_mk HN.out ?_
         refine tree_one rfl ?_
         go_wp2_with fail
         obtain ⟨X9, hX9, hNX, hx9, l9, hs9, hbx⟩ := xal HN.out (Obj.cells #[.int .i64 0, .slice none 0 0, .int .i64 0, .slice none 0 0] 174)
         try simp only [← hX9]
         generalize (wx4.alloc (Obj.cells #[.int .i64 0, .slice none 0 0, .int .i64 0, .slice none 0 0] 174)) = wx5 at *
         have HX9 := Lib.hid (And.intro hX9 hs9)
         have HN := bwt HN hbx
         have HA := Lib.hid (HA.out.below hbx)
         have HC := Lib.hid (HC.out.below hbx)
         have HD := Lib.hid (HD.out.below hbx)
         have HS := Lib.hid (HS.out.below hbx)
         clear hbx hX9 hs9
         refine tailL_mk HN.out ?_
         refine tree_one rfl ?_
         obtain ⟨c90, c91, c92, c93, f90, f91, f92, f93⟩ := xcf4 hx9
         go_wp2_with fail
         have hq9 := xst4 HN.out hNX hx9 (.int .i64 sD) (.slice aD nD cD) (.int .i64 tD) (.slice bD mD dD)
         have HN := Lib.hid hq9.1
         have hxo := hx9
         have hx9 := hq9.2
         clear hq9
         refine tailL_mk HN.out ?_
         refine tree_done ?_
         go_wp2_with fail
         have HR := Lib.hid (RB.put2 (X := X9) HS.out (fun b hb => by
          obtain ⟨hX9, hsz9⟩ := HX9.out
          (try simp only [World.size_drew] at *)
          omega))
         rw [← HQ.out] at HR
         go_meet
         case rel => exact ⟨X9, sD, tD, aD, bD, nD, cD, mD, dD, rfl, Lib.hid hx9, hNX, HR, HN⟩
        ·go_wp2_with fail
         obtain ⟨X9, hX9, hNX, hx9, l9, hs9, hbx⟩ := xal HN.out (Obj.cells #[.int .i64 0, .slice none 0 0, .int .i64 0, .slice none 0 0] 174)
         try simp only [← hX9]
         generalize (wx3.alloc (Obj.cells #[.int .i64 0, .slice none 0 0, .int .i64 0, .slice none 0 0] 174)) = wx7 at *
         have HX9 := Lib.hid (And.intro hX9 hs9)
         have HN := bwt HN hbx
         have HA := Lib.hid (HA.out.below hbx)
         have HC := Lib.hid (HC.out.below hbx)
         clear hbx hX9 hs9
         refine tailL_mk HN.out ?_
         refine tree_one rfl ?_
         go_wp2_with fail
         refine (rb_sub _ _ _ _ 1 2 _ HA.out HC.out (sz_int (by omega) (by omega)) HSX.out.1 (by omega)).mono ?_
         rintro ex wx8 ⟨sD, aD, nD, cD, tD, bD, mD, dD, rfl, hbx, hD, hDs⟩
         have HD := Lib.hid hD
         have HS := Lib.hid hDs.out.here
         clear hD hDs
         have hzx := hbx.size
         have HN := bwt HN hbx
         have HA := Lib.hid (HA.out.below hbx)
         have HC := Lib.hid (HC.out.below hbx)
         have hx9 := (hbx.block X9 l9).trans hx9
         have l9 := Nat.lt_of_lt_of_le l9 hbx.size
         clear hbx
         go_wp2_with fail
         refine tailL_mk HN.out ?_
         refine tree_one rfl ?_
         obtain ⟨c90, c91, c92, c93, f90, f91, f92, f93⟩ := xcf4 hx9
         go_wp2_with fail
         have hq9 := xst4 HN.out hNX hx9 (.int .i64 sD) (.slice aD nD cD) (.int .i64 tD) (.slice bD mD dD)
         have HN := Lib.hid hq9.1
         have hxo := hx9
         have hx9 := hq9.2
         clear hq9
         refine tailL_mk HN.out ?_
         refine tree_done ?_
         go_wp2_with fail
         have HR := Lib.hid (RB.put2 (X := X9) HS.out (fun b hb => by
          obtain ⟨hX9, hsz9⟩ := HX9.out
          (try simp only [World.size_drew] at *)
          omega))
         rw [← HQ.out] at HR
         go_meet
         case rel => exact ⟨X9, sD, tD, aD, bD, nD, cD, mD, dD, rfl, Lib.hid hx9, hNX, HR, HN⟩
       ·go_wp2_with fail
        obtain ⟨X9, hX9, hNX, hx9, l9, hs9, hbx⟩ := xal HN.out (Obj.cells #[.int .i64 0, .slice none 0 0, .int .i64 0, .slice none 0 0] 174)
        try simp only [← hX9]
        generalize (wx2.alloc (Obj.cells #[.int .i64 0, .slice none 0 0, .int .i64 0, .slice none 0 0] 174)) = wx10 at *
        have HX9 := Lib.hid (And.intro hX9 hs9)
        have HN := bwt HN hbx
        have HA := Lib.hid (HA.out.below hbx)
        clear hbx hX9 hs9
        refine tailL_mk HN.out ?_
        refine tree_one rfl ?_
        go_wp2_with fail
        refine (HOV.out _ (HB.out.trans (HN.out.mono HB.out.size))).mono ?_
        rintro ex wx11 ⟨sC, aC, nC, cC, tC, bC, mC, dC, rfl, hbx, hC, hCs⟩
        have HC := Lib.hid hC
        have HS := Lib.hid hCs.out.here
        clear hC hCs
        have hzx := hbx.size
        have HN := bwt HN hbx
        have HA := Lib.hid (HA.out.below hbx)
        have hx9 := (hbx.block X9 l9).trans hx9
        have l9 := Nat.lt_of_lt_of_le l9 hbx.size
        clear hbx
        go_wp2_with fail
        refine tailL_mk HN.out ?_
        refine tree_one rfl ?_
        go_wp2_with fail
        refine (rb_sub _ _ _ _ 1 2 _ HA.out HC.out (sz_int (by omega) (by omega)) HSX.out.1 (by omega)).mono ?_
        rintro ex wx12 ⟨sD, aD, nD, cD, tD, bD, mD, dD, rfl, hbx, hD, hDs⟩
        have HD := Lib.hid hD
        have HS := Lib.hid hDs.out.here
        clear hD hDs
        have hzx := hbx.size
        have HN := bwt HN hbx
        have HA := Lib.hid (HA.out.below hbx)
        have HC := Lib.hid (HC.out.below hbx)
        have hx9 := (hbx.block X9 l9).trans hx9
        have l9 := Nat.lt_of_lt_of_le l9 hbx.size
        clear hbx
        go_wp2_with fail
        refine tailL_mk HN.out ?_
        refine tree_one rfl ?_
        obtain ⟨c90, c91, c92, c93, f90, f91, f92, f93⟩ := xcf4 hx9
        go_wp2_with fail
        have hq9 := xst4 HN.out hNX hx9 (.int .i64 sD) (.slice aD nD cD) (.int .i64 tD) (.slice bD mD dD)
        have HN := Lib.hid hq9.1
        have hxo := hx9
        have hx9 := hq9.2
        clear hq9
        refine tailL_mk HN.out ?_
        refine tree_done ?_
        go_wp2_with fail
        have HR := Lib.hid (RB.put2 (X := X9) HS.out (fun b hb => by
         obtain ⟨hX9, hsz9⟩ := HX9.out
         (try simp only [World.size_drew] at *)
         omega))
        rw [← HQ.out] at HR
        go_meet
        case rel => exact ⟨X9, sD, tD, aD, bD, nD, cD, mD, dD, rfl, Lib.hid hx9, hNX, HR, HN⟩
      ·go_wp2_with fail
       obtain ⟨X9, hX9, hNX, hx9, l9, hs9, hbx⟩ := xal HN.out (Obj.cells #[.int .i64 0, .slice none 0 0, .int .i64 0, .slice none 0 0] 174)
       try simp only [← hX9]
       generalize (wx1.alloc (Obj.cells #[.int .i64 0, .slice none 0 0, .int .i64 0, .slice none 0 0] 174)) = wx14 at *
       have HX9 := Lib.hid (And.intro hX9 hs9)
       have HN := bwt HN hbx
       clear hbx hX9 hs9
       refine tailL_mk HN.out ?_
       refine tree_one rfl ?_
       go_wp2_with fail
       refine (rb_int VA _ (by omega) (by omega)).mono ?_
       rintro ex wx15 ⟨sA, aA, nA, cA, tA, bA, mA, dA, rfl, hbx, hA, hAs⟩
       have HA := Lib.hid hA
       have HS := Lib.hid hAs.out.here
       clear hA hAs
       have hzx := hbx.size
       have HN := bwt HN hbx
       have hx9 := (hbx.block X9 l9).trans hx9
       have l9 := Nat.lt_of_lt_of_le l9 hbx.size
       clear hbx
       go_wp2_with fail
       refine tailL_mk HN.out ?_
       refine tree_one rfl ?_
       go_wp2_with fail
       refine (HOV.out _ (HB.out.trans (HN.out.mono HB.out.size))).mono ?_
       rintro ex wx16 ⟨sC, aC, nC, cC, tC, bC, mC, dC, rfl, hbx, hC, hCs⟩
       have HC := Lib.hid hC
       have HS := Lib.hid hCs.out.here
       clear hC hCs
       have hzx := hbx.size
       have HN := bwt HN hbx
       have HA := Lib.hid (HA.out.below hbx)
       have hx9 := (hbx.block X9 l9).trans hx9
       have l9 := Nat.lt_of_lt_of_le l9 hbx.size
       clear hbx
       go_wp2_with fail
       refine tailL_mk HN.out ?_
       refine tree_one rfl ?_
       go_wp2_with fail
       refine (rb_sub _ _ _ _ 1 2 _ HA.out HC.out (sz_int (by omega) (by omega)) HSX.out.1 (by omega)).mono ?_
       rintro ex wx17 ⟨sD, aD, nD, cD, tD, bD, mD, dD, rfl, hbx, hD, hDs⟩
       have HD := Lib.hid hD
       have HS := Lib.hid hDs.out.here
       clear hD hDs
       have hzx := hbx.size
       have HN := bwt HN hbx
       have HA := Lib.hid (HA.out.below hbx)
       have HC := Lib.hid (HC.out.below hbx)
       have hx9 := (hbx.block X9 l9).trans hx9
       have l9 := Nat.lt_of_lt_of_le l9 hbx.size
       clear hbx
       go_wp2_with fail
       refine tailL_mk HN.out ?_
       refine tree_one rfl ?_
       obtain ⟨c90, c91, c92, c93, f90, f91, f92, f93⟩ := xcf4 hx9
       go_wp2_with fail
       have hq9 := xst4 HN.out hNX hx9 (.int .i64 sD) (.slice aD nD cD) (.int .i64 tD) (.slice bD mD dD)
       have HN := Lib.hid hq9.1
       have hxo := hx9
       have hx9 := hq9.2
       clear hq9
       refine tailL_mk HN.out ?_
       refine tree_done ?_
       go_wp2_with fail
       have HR := Lib.hid (RB.put2 (X := X9) HS.out (fun b hb => by
        obtain ⟨hX9, hsz9⟩ := HX9.out
        (try simp only [World.size_drew] at *)
        omega))
       rw [← HQ.out] at HR
       go_meet
       case rel => exact ⟨X9, sD, tD, aD, bD, nD, cD, mD, dD, rfl, Lib.hid hx9, hNX, HR, HN⟩
     ·go_wp2_with fail
      obtain ⟨X9, hX9, hNX, hx9, l9, hs9, hbx, hbd⟩ := xald HN.out (Obj.cells #[.int .i64 0, .slice none 0 0, .int .i64 0, .slice none 0 0] 174)
      try simp only [← hX9]
      generalize (w6.alloc (Obj.cells #[.int .i64 0, .slice none 0 0, .int .i64 0, .slice none 0 0] 174)).drew = wx19 at *
      have HX9 := Lib.hid (And.intro hX9 hs9)
      have HN := Lib.hid hbx
      clear hbx hX9 hs9 hbd
      refine tailL_mk HN.out ?_
      refine tree_one rfl ?_
      go_wp2_with fail
      refine (HTVI.out _ (HB.out.trans (HN.out.mono HB.out.size))).mono ?_
      rintro e11 wx20 ⟨rfl, hbx⟩
      have hzx := hbx.size
      have HN := bwt HN hbx
      have hx9 := (hbx.block X9 l9).trans hx9
      have l9 := Nat.lt_of_lt_of_le l9 hbx.size
      clear hbx
      go_wp2_with fail
      refine tailL_mk HN.out ?_
      refine tree_one rfl ?_
      go_wp2_with fail
      refine (rb_int VA _ (by omega) (by omega)).mono ?_
      rintro ex wx21 ⟨sA, aA, nA, cA, tA, bA, mA, dA, rfl, hbx, hA, hAs⟩
      have HA := Lib.hid hA
      have HS := Lib.hid hAs.out.here
      clear hA hAs
      have hzx := hbx.size
      have HN := bwt HN hbx
      have hx9 := (hbx.block X9 l9).trans hx9
      have l9 := Nat.lt_of_lt_of_le l9 hbx.size
      clear hbx
      go_wp2_with fail
      refine tailL_mk HN.out ?_
      refine tree_one rfl ?_
      go_wp2_with fail
      refine (HOV.out _ (HB.out.trans (HN.out.mono HB.out.size))).mono ?_
      rintro ex wx22 ⟨sC, aC, nC, cC, tC, bC, mC, dC, rfl, hbx, hC, hCs⟩
      have HC := Lib.hid hC
      have HS := Lib.hid hCs.out.here
      clear hC hCs
      have hzx := hbx.size
      have HN := bwt HN hbx
      have HA := Lib.hid (HA.out.below hbx)
      have hx9 := (hbx.block X9 l9).trans hx9
      have l9 := Nat.lt_of_lt_of_le l9 hbx.size
      clear hbx
      go_wp2_with fail
      refine tailL_mk HN.out ?_
      refine tree_one rfl ?_
      go_wp2_with fail
      refine (rb_sub _ _ _ _ 1 2 _ HA.out HC.out (sz_int (by omega) (by omega)) HSX.out.1 (by omega)).mono ?_
      rintro ex wx23 ⟨sD, aD, nD, cD, tD, bD, mD, dD, rfl, hbx, hD, hDs⟩
      have HD := Lib.hid hD
      have HS := Lib.hid hDs.out.here
      clear hD hDs
      have hzx := hbx.size
      have HN := bwt HN hbx
      have HA := Lib.hid (HA.out.below hbx)
      have HC := Lib.hid (HC.out.below hbx)
      have hx9 := (hbx.block X9 l9).trans hx9
      have l9 := Nat.lt_of_lt_of_le l9 hbx.size
      clear hbx
      go_wp2_with fail
      refine tailL_mk HN.out ?_
      refine tree_one rfl ?_
      obtain ⟨c90, c91, c92, c93, f90, f91, f92, f93⟩ := xcf4 hx9
      go_wp2_with fail
      have hq9 := xst4 HN.out hNX hx9 (.int .i64 sD) (.slice aD nD cD) (.int .i64 tD) (.slice bD mD dD)
      have HN := Lib.hid hq9.1
      have hxo := hx9
      have hx9 := hq9.2
      clear hq9
      refine tailL_mk HN.out ?_
      refine tree_done ?_
      go_wp2_with fail
      have HR := Lib.hid (RB.put2 (X := X9) HS.out (fun b hb => by
       obtain ⟨hX9, hsz9⟩ := HX9.out
       (try simp only [World.size_drew] at *)
       omega))
      rw [← HQ.out] at HR
      go_meet
      case rel => exact ⟨X9, sD, tD, aD, bD, nD, cD, mD, dD, rfl, Lib.hid hx9, hNX, HR, HN⟩
    case rest =>
     obtain ⟨w7, rfl⟩ : ∃ w', w' = wc := ⟨wc, rfl⟩
     obtain ⟨X9, s9, t9, a9, b9, n9, c9, m9, d9, rfl, K9, lX9, HR, HQ7⟩ := hcut
     clear q0 q1 q2 u0 u1 u2 u3 u4 u5 l4 l5
     have hb7 := HQ7.out
     have K4 := Lib.hid (K4.out.below hb7)
     have K5 := Lib.hid (K5.out.below hb7)
     have K8 := Lib.hid (K8.out.below hb7)
     have HB := bwt HB hb7
     clear hb7
     obtain ⟨q0, q1, q2, _⟩ := blkc3 K4.out
     obtain ⟨u0, u1, u2, u3, u4, u5, _⟩ := blkc6 K5.out
     have l4 := K4.out.lt
     have l5 := K5.out.lt
     obtain ⟨y0, y1, y2, y3, l9⟩ := blkc4 K9.out
     have i0 : (0 : Int) ≤ (i : Int) := by omega
     have i1 : (i : Int) < (nb : Int) := by omega
     clear hva HOV HTVI HVA HCH HC2
     go_wp2_with fail
     have HN := Lib.hid (Below.refl w7.heap.size w7).drew
     refine wp_region_laterY (B := w7.heap.size) [0, 1, 2, 3, 5, 9] [4, 6, 7, 8, 10, 11] [12, 13] (by kernel_rfl) (by kernel_rfl) ?_; simp only [List.filterMap_cons, List.filterMap_nil, List.getElem?_cons_zero, List.getElem?_cons_succ]; repeat (show wpQuiet _ _ _ _ (_ :: _) _; go_big_quiet_step (fail))
     refine wpQuiet_nil ?_
     have HR := Lib.hid (HR.out.below (Below.refl _ _).drew)
     have K8 := Lib.hid (K8.out.below (Below.refl _ _).drew)
     refine tailY_cons ?_
     go_wp2_with fail
     refine (HCV.out _ (HB.out.trans (HN.out.mono HB.out.size))).mono ?_
     rintro e11 p1 ⟨A, g, cs, rfl, hbx, hg, hrow⟩
     have HG := Lib.hid hrow
     clear hrow hg
     have hzx := hbx.size
     have HN := bwt HN hbx
     have HR := Lib.hid (HR.out.below hbx)
     have K8 := Lib.hid (K8.out.below hbx)
     clear hbx
     go_wp2_with fail
     refine tailL_mk HN.out ?_
     refine tailY_cons ?_
     go_wp2_with fail
     obtain ⟨sE, aE, nE, cE, tE, bE, mE, dE, g0, g1, g2, g3, hra⟩ := HG.out.at hi
     have HE := Lib.hid hra.rb
     have lg := HG.out.lt
     clear hra
     go_wp2_with fail
     refine tailL_mk HN.out ?_
     refine tailY_cons ?_
     go_wp2_with fail
     refine tailL_mk HN.out ?_
     refine tailY_cons ?_
     go_wp2_with fail
     clear g0 g1 g2 g3 lg
     refine (rsize_any sE tE aE bE nE cE mE dE (ZQ i) _ HE.out HSZ3.out.1).mono ?_
     rintro e11 p2 ⟨rfl, hbx⟩
     rw [← HSZ3.out.2.1, ← HSZ3.out.2.2]
     have hzx := hbx.size
     have HN := bwt HN hbx
     have HR := Lib.hid (HR.out.below hbx)
     have K8 := Lib.hid (K8.out.below hbx)
     have HG := Lib.hid (HG.out.below hbx)
     clear hbx
     go_wp2_with fail
     refine tailL_mk HN.out ?_
     refine tailY_cons ?_
     go_wp2_with fail
     refine (rsize_any s9 t9 a9 b9 n9 c9 m9 d9 BQ _ HR.out HSX.out.2.1).mono ?_
     rintro e11 p3 ⟨rfl, hbx⟩
     rw [← HSX.out.2.2.1, ← HSX.out.2.2.2]
     have hzx := hbx.size
     have HN := bwt HN hbx
     have HR := Lib.hid (HR.out.below hbx)
     have K8 := Lib.hid (K8.out.below hbx)
     have HG := Lib.hid (HG.out.below hbx)
     clear hbx
     go_wp2_with fail
     refine tailL_mk HN.out ?_
     refine tailY_cons ?_
     go_wp2_with fail
     refine tailL_mk HN.out ?_
     refine tailY_ends ?_
     have HB := bwt HB HN.out
     have HV0 := HVV
     obtain ⟨d80, d81, d82, d83, _⟩ := blkc4 K8.out
     have f80 := blk_fz K8.out 0
     have f81 := blk_fz K8.out 1
     have f82 := blk_fz K8.out 2
     have f83 := blk_fz K8.out 3
     have l8 := K8.out.lt
     refine ends_cons ?_
     go_wp2_with fail
     refine tailZ_end ?_
     refine ends_cons ?_
     go_wp2_with fail
     refine tailZ_end ?_
     refine ends_nil ?_
     go_wp2
     refine bodyPost_ret (v := .tuple #[.agg #[.int .i64 BC.1, .int .i64 BC.2, .int .i64 BV.1, .int .i64 BV.2], .int .i64 0]) ?_ rfl ⟨by rw [HV0.out, HE0.out], set4_below HB.out hx8 _ _ _ _⟩
     have kw := set4_same K8.out (.int .i64 BC.1) (.int .i64 BC.2) (.int .i64 BV.1) (.int .i64 BV.2)
     unfold set4 at kw
     generalize World.setCell (World.setCell (World.setCell (World.setCell _ _ _) _ _) _ _) _ _ = wz at *
     obtain ⟨e80, e81, e82, e83, _⟩ := blkc4 kw
     simp [results, Tryz.results87, go_sem, e80, e81, e82, e83]
   ·have e2 := bne_iff_ne.2 h2
    have HE0 := Lib.hid (show E = CE2 from HEF.out)
    have HV0 := Lib.hid (show V = ((0, 0), (0, 0)) from by rw [HV.out, if_neg (by rw [HE0.out]; exact h2)])
    clear h2 HEF HV HOU HSZ
    obtain ⟨d80, d81, d82, d83, _⟩ := blkc4 K8.out
    have f80 := blk_fz K8.out 0
    have f81 := blk_fz K8.out 1
    have f82 := blk_fz K8.out 2
    have f83 := blk_fz K8.out 3
    have l8 := K8.out.lt
    go_wp2
    refine bodyPost_ret (v := .tuple #[.agg #[.int .i64 0, .int .i64 0, .int .i64 0, .int .i64 0], .int .i64 CE2]) ?_ rfl ⟨by rw [HV0.out, HE0.out], set4_below HB.out hx8 _ _ _ _⟩
    have kw := set4_same K8.out (.int .i64 0) (.int .i64 0) (.int .i64 0) (.int .i64 0)
    unfold set4 at kw
    generalize World.setCell (World.setCell (World.setCell (World.setCell _ _ _) _ _) _ _) _ _ = wz at *
    obtain ⟨e80, e81, e82, e83, _⟩ := blkc4 kw
    simp [results, Tryz.results87, go_sem, e80, e81, e82, e83]
  ·have e1 := bne_iff_ne.2 h1
   have HE0 := Lib.hid (show E = CE1 from HEE.out.trans (if_pos h1))
   have HV0 := Lib.hid (show V = ((0, 0), (0, 0)) from by rw [HV.out, if_neg (by rw [HE0.out]; exact h1)])
   clear h1 HEE HV HC2 HOU HSZ HCU HSZ2
   obtain ⟨d80, d81, d82, d83, _⟩ := blkc4 K8.out
   have f80 := blk_fz K8.out 0
   have f81 := blk_fz K8.out 1
   have f82 := blk_fz K8.out 2
   have f83 := blk_fz K8.out 3
   have l8 := K8.out.lt
   go_wp2
   refine bodyPost_ret (v := .tuple #[.agg #[.int .i64 0, .int .i64 0, .int .i64 0, .int .i64 0], .int .i64 CE1]) ?_ rfl ⟨by rw [HV0.out, HE0.out], set4_below HB.out hx8 _ _ _ _⟩
   have kw := set4_same K8.out (.int .i64 0) (.int .i64 0) (.int .i64 0) (.int .i64 0)
   unfold set4 at kw
   generalize World.setCell (World.setCell (World.setCell (World.setCell _ _ _) _ _) _ _) _ _ = wz at *
   obtain ⟨e80, e81, e82, e83, _⟩ := blkc4 kw
   simp [results, Tryz.results87, go_sem, e80, e81, e82, e83]
end Go.Proofs.YtdjinmieogpgcaaGreat
/- Fractions compared, of the reference. -/
namespace Go.Proofs.YtdjinmieogpgcaaGreat
open Go.RowKit
set_option linter.unusedVariables false
def cmpJ (x y : Int) : Int := if x < y then -1 else if y < x then 1 else 0
theorem bcmpJ_any (a1 a2 b1 b2 : Int) (w : World) (h1 : -4000000000000000000 ≤ a1 * b2 ∧ a1 * b2 ≤ 4000000000000000000) (h2 : -4000000000000000000 ≤ b1 * a2 ∧ b1 * a2 ≤ 4000000000000000000) :
    Calls Tryz.prog 85 #[.agg #[.int .i64 a1, .int .i64 a2], .agg #[.int .i64 b1, .int .i64 b2]] w fun e' w' => e' = .returned (.int .i64 (cmpJ (a1 * b2) (b1 * a2))) ∧ Below w.heap.size w w' := by
 obtain ⟨R, hR⟩ : ∃ R, R = cmpJ (a1 * b2) (b1 * a2) := ⟨_, rfl⟩
 rw [← hR]
 have HR := Lib.hid hR
 clear hR
 go_enter Tryz.func85, Tryz.ntmps85
 go_wp2
 go_quiet (fail)
 go_wp2_with fail
 all_goals
  go_ret
  refine ⟨ret_int (by rw [HR.out]; unfold cmpJ; (repeat' split) <;> first | rfl | omega), ?_⟩
  (first|exact bwg|go_size)
end Go.Proofs.YtdjinmieogpgcaaGreat
