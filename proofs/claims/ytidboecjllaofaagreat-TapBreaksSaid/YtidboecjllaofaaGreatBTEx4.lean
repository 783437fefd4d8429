import Derived.Test.YtidboecjllaofaaGreatBPlain0
import Derived.Test.YtidboecjllaofaaGreatBTElx
import Derived.Test.YtidboecjllaofaaGreatQTRefF
/- What a contact breaks: the exported function. -/
namespace Go.Proofs.YtidboecjllaofaaGreat
open Go.RowKit Go.Shelf
set_option linter.unusedVariables false
set_option linter.unusedSimpArgs false
def batZ (m : Mac) (l : Lim) (s i load : Int) : Int := firstErr [opnE m l, staE m.br.length s, conE m.br.length i, loaE load]
def batE (m : Mac) (l : Lim) (s i load : Int) : Int := if batZ m l s i load ≠ 0 then batZ m l s i load else rbrE m s.toNat i.toNat
def batV (m : Mac) (l : Lim) (s i load : Int) : (Int × Int) × (Int × Int) := if batZ m l s i load ≠ 0 then ((0, 0), (0, 0)) else rbrV m l s.toNat i.toNat load
theorem batZ_zero {m : Mac} {l : Lim} {s i load : Int} (h : batZ m l s i load = 0) : MacV m ∧ limE l = 0 ∧ (∃ n : Nat, s = (n : Int) ∧ n < 2 ^ m.br.length) ∧ (∃ k : Nat, i = (k : Int) ∧ k < m.br.length) ∧ -1000 ≤ load ∧ load ≤ 1000 := by
 unfold batZ at h
 rw [firstErr_cons, firstErr_cons, firstErr_cons, firstErr_cons, staE_zero, conE_zero, loaE_zero] at h
 obtain ⟨hm, hl⟩ := opnE_zero h.1
 refine ⟨hm, hl, ⟨s.toNat, by omega, ?_⟩, ⟨i.toNat, by omega, by omega⟩, h.2.2.2.1⟩
 have : ((2 ^ m.br.length : Nat) : Int) = (2 : Int) ^ m.br.length := by push_cast; rfl
 omega
set_option maxHeartbeats 2000000 in
set_option maxRecDepth 100000 in
theorem breakAt_any (m : Mac) (l : Lim) (s i load : Int) (ab ag : Option Addr) (nb cb ng cg : Nat) (w : World) (hb : BrR w ab nb m.br) (hg : GrR w ag ng m.gs) (h8 : nb ≤ 8) :
    Calls Tryz.prog 59 #[.agg #[.slice ab nb cb, .int .i64 m.st, .slice ag ng cg], .agg #[.int .i64 l.volt, .int .i64 l.lo, .int .i64 l.hi, .int .i64 l.circ, .int .i64 l.brk, .int .i64 l.ret], .int .i64 s, .int .i64 i, .int .i64 load] w
     fun e' w' => e' = .returned (.tuple #[.agg #[.int .i64 (batV m l s i load).1.1, .int .i64 (batV m l s i load).1.2, .int .i64 (batV m l s i load).2.1, .int .i64 (batV m l s i load).2.2], .int .i64 (batE m l s i load)]) ∧ Below w.heap.size w w' := by
 have hlen := hb.len
 have HO := Lib.hid (fun (W : World) (hbw : Below w.heap.size w W) => open6_any m l ab ag nb cb ng cg W (hb.below hbw) (hg.below hbw))
 have HST := Lib.hid (fun (W : World) => m_staE_any m.st nb cb ng cg ab ag s W h8)
 have HCO := Lib.hid (fun (W : World) => m_conE_any m.st nb cb ng cg ab ag i W (by omega))
 have HLO := Lib.hid (fun (W : World) => loadE_any load W)
 have HK := Lib.hid (fun (h : batZ m l s i load = 0) => show ∃ n k : Nat, s = (n : Int) ∧ i = (k : Int) ∧ n < 64 ∧ k < 6 ∧ batE m l s i load = rbrE m n k ∧ batV m l s i load = rbrV m l n k load
     ∧ (∀ (W : World), Below w.heap.size w W → Calls Tryz.prog 136 #[.agg #[.slice ab nb cb, .int .i64 m.st, .slice ag ng cg, .int .i64 l.volt, .int .i64 l.lo, .int .i64 l.hi, .int .i64 l.circ, .int .i64 l.brk, .int .i64 l.ret], .int .i64 (n : Int)] W (fun e' w' => e' = .returned (.int .i64 (curE m n)) ∧ Below W.heap.size W w'))
     ∧ (∀ (W : World), Below w.heap.size w W → Calls Tryz.prog 136 #[.agg #[.slice ab nb cb, .int .i64 m.st, .slice ag ng cg, .int .i64 l.volt, .int .i64 l.lo, .int .i64 l.hi, .int .i64 l.circ, .int .i64 l.brk, .int .i64 l.ret], .int .i64 ((trn n k : Nat) : Int)] W (fun e' w' => e' = .returned (.int .i64 (curE m (trn n k))) ∧ Below W.heap.size W w'))
     ∧ (curE m n = 0 → curE m (trn n k) = 0 → ∀ (W : World), Below w.heap.size w W → Calls Tryz.prog 138 #[.agg #[.slice ab nb cb, .int .i64 m.st, .slice ag ng cg, .int .i64 l.volt, .int .i64 l.lo, .int .i64 l.hi, .int .i64 l.circ, .int .i64 l.brk, .int .i64 l.ret], .int .i64 (n : Int), .int .i64 (k : Int), .int .i64 load] W (fun e' w' => e' = .returned (.agg #[.int .i64 (brkC m l n k load).1, .int .i64 (brkC m l n k load).2, .int .i64 (brkV m l n k load).1, .int .i64 (brkV m l n k load).2]) ∧ Below W.heap.size W w')) from by
  obtain ⟨hm, hl, ⟨n, rfl, hn⟩, ⟨k, rfl, hk⟩, hd⟩ := batZ_zero h
  have hl1 := (limE_zero.1 hl).1
  rw [hlen] at hn hk
  have hn6 : nb ≤ 6 := by rw [← hlen]; exact hm.n1
  have hts : trn n k < 2 ^ nb := trn_lt hn6 hn hk
  refine ⟨n, k, rfl, rfl, Nat.lt_of_lt_of_le hn (Nat.le_trans (Nat.pow_le_pow_right (by omega) hn6) (by decide)), by omega, ?_, ?_, fun W hbw => currentsErr_any m l n ab ag nb cb ng cg W hm (hb.below hbw) hn, fun W hbw => currentsErr_any m l (trn n k) ab ag nb cb ng cg W hm (hb.below hbw) hts, fun h1 h2 W hbw => breaks_any m l n k load ab ag nb cb ng cg W (hb.below hbw) ⟨hm, hl1, hd, by rw [hlen]; exact hn, curE_s0 h1⟩ ⟨hm, hl1, hd, by rw [hlen]; exact hts, curE_s0 h2⟩ hk⟩
  ·unfold batE; rw [h, if_neg (by decide), Int.toNat_natCast, Int.toNat_natCast]
  ·unfold batV; rw [h, if_neg (by decide), Int.toNat_natCast, Int.toNat_natCast])
 have HBD := Lib.hid (fun (h : batZ m l s i load ≠ 0) => show batE m l s i load = batZ m l s i load ∧ batV m l s i load = ((0, 0), (0, 0)) from ⟨if_pos h, if_pos h⟩)
 have hZ : batZ m l s i load = firstErr [opnE m l, staE nb s, conE nb i, loaE load] := by unfold batZ; rw [hlen]
 rw [show firstErr [(macE m).2, limE l] = opnE m l from rfl] at HO
 generalize batV m l s i load = V at *
 generalize batE m l s i load = VE at *
 generalize batZ m l s i load = E at *
 generalize opnE m l = E1 at *
 generalize staE nb s = E2 at *
 generalize conE nb i = E3 at *
 generalize loaE load = E4 at *
 have HRB : ∀ n k, rbrE m n k = if n.testBit k = false then 20 else firstErr [curE m n, curE m (trn n k)] := by
  intro n k
  unfold rbrE
  split
  ·rfl
  ·split
   ·rename_i h; exact (show firstErr _ = _ from by show (if curE m n = 0 then _ else curE m n) = _; rw [if_neg h]).symm
   ·rename_i h
    rw [Decidable.not_not.1 h]
    show _ = (if (0 : Int) = 0 then (if curE m (trn n k) = 0 then 0 else curE m (trn n k)) else 0)
    rw [if_pos rfl]
    split
    ·rename_i h2; exact h2
    ·rfl
 have HRV : ∀ n k, rbrV m l n k load = if rbrE m n k = 0 then (brkC m l n k load, brkV m l n k load) else ((0, 0), (0, 0)) := fun _ _ => rfl
 have HRB := Lib.hid HRB
 have HRV := Lib.hid HRV
 have HZ := Lib.hid hZ
 obtain ⟨st, hst⟩ : ∃ x, x = m.st := ⟨_, rfl⟩
 rw [← hst] at HO HST HCO HK ⊢
 obtain ⟨vo, lo, hi, ci, br, re⟩ := l
 simp only at HO HK ⊢
 clear hb hg hst hZ hlen
 go_enter Tryz.func59, Tryz.ntmps59
 go_wp2_with fail
 refine (HO.out _ (by (repeat' first|(with_reducible first|exact bw1|assumption|refine bw2 ?_ _|refine bw3 ?_ ?_ _|refine bw4 ?_|refine bw5 ?_ ?_ _|refine bw6 (by assumption) ?_ ?_|exact And.left (by assumption))|go_size))).mono ?_
 rintro e5 w5 ⟨rfl, hb5⟩
 have k8 : BlkR w5 (w.heap.size + 1 + 1) (.cells #[.int .i64 0, .int .i64 0, .int .i64 0, .int .i64 0] 106) := by
  show w5.heap[w.heap.size + 1 + 1]? = _
  rw [hb5.block _ (by simp)]
  have := heap_alloc_new ((w.alloc (Obj.cells #[.slice ab nb cb, .int .i64 st, .slice ag ng cg] 45)).alloc (Obj.cells #[.int .i64 vo, .int .i64 lo, .int .i64 hi, .int .i64 ci, .int .i64 br, .int .i64 re] 47)) (Obj.cells #[.int .i64 0, .int .i64 0, .int .i64 0, .int .i64 0] 106)
  simpa using this
 have HB5 := Lib.hid (show Below w.heap.size w w5 by (repeat' first|(with_reducible first|exact bw1|assumption|refine bw2 ?_ _|refine bw3 ?_ ?_ _|refine bw4 ?_|refine bw5 ?_ ?_ _|refine bw6 (by assumption) ?_ ?_|exact And.left (by assumption))|go_size))
 obtain ⟨X8, hX8⟩ : ∃ X, X = w.heap.size + 1 + 1 := ⟨_, rfl⟩
 rw [← hX8] at k8
 simp only [← hX8]
 have hx8 : w.heap.size ≤ X8 := by omega
 clear hb5 HO hX8
 obtain ⟨w6, hW⟩ : ∃ w6, w6 = w5.alloc (Obj.cells #[.slice ab nb cb, .int .i64 st, .slice ag ng cg, .int .i64 vo, .int .i64 lo, .int .i64 hi, .int .i64 ci, .int .i64 br, .int .i64 re] 164) := ⟨_, rfl⟩
 have hb6 : Below w5.heap.size w5 w6 := by rw [hW]; (repeat' first|(with_reducible first|exact bw1|assumption|refine bw2 ?_ _|refine bw3 ?_ ?_ _|refine bw4 ?_|refine bw5 ?_ ?_ _|refine bw6 (by assumption) ?_ ?_|exact And.left (by assumption))|go_size)
 have k6 : BlkR w6 w5.heap.size (.cells #[.slice ab nb cb, .int .i64 st, .slice ag ng cg, .int .i64 vo, .int .i64 lo, .int .i64 hi, .int .i64 ci, .int .i64 br, .int .i64 re] 164) := by show w6.heap[w5.heap.size]? = _; rw [hW]; exact heap_alloc_new _ _
 have HB6 := Lib.hid (HB5.out.trans (hb6.mono HB5.out.size))
 obtain ⟨X6, hX6⟩ : ∃ X, X = w5.heap.size := ⟨_, rfl⟩
 rw [← hX6] at k6
 have K6 := Lib.hid k6
 have K8 := Lib.hid (k8.below hb6)
 clear hb6 k6 k8
 obtain ⟨c6, c6_1, c6_2, c6_3, c6_4, c6_5, c6_6, c6_7, c6_8, l6⟩ := blkc9 K6.out
 go_wp2_with fail
 rw [← hW]
 simp only [← hX6]
 clear hW hX6
 have HB := HB6
 refine later_of_eq 11 (by kernel_rfl) (by kernel_rfl) ?_; simp only [List.take_succ_cons, List.take_zero, List.drop_succ_cons, List.drop_zero]; repeat go_big_quiet_step(first | with_reducible exact calls_later (HST.out _) | with_reducible exact calls_later (HCO.out _) | with_reducible exact calls_later_same (HLO.out _))
 refine wpQuiet_nil ?_; intro w7 hb7
 have K6 := Lib.hid (K6.out.below hb7)
 have K8 := Lib.hid (K8.out.below hb7)
 have HB := Lib.hid (HB.out.trans (hb7.mono HB.out.size))
 clear hb7
 clear HST HCO HLO HB6 HB5
 clear c6 c6_1 c6_2 c6_3 c6_4 c6_5 c6_6 c6_7 c6_8 l6
 go_wp2_with fail
 refine (t_first4 _ _ _ _ _ _ _ _ (by rfl) (by simp)).mono ?_
 rintro e8 w8 ⟨rfl, hw8⟩
 rw [← HZ.out]
 have hb8 : Below w7.heap.size w7 w8 := by rw [← hw8]; (repeat' first|(with_reducible first|exact bw1|assumption|refine bw2 ?_ _|refine bw3 ?_ ?_ _|refine bw4 ?_|refine bw5 ?_ ?_ _|refine bw6 (by assumption) ?_ ?_|exact And.left (by assumption))|go_size)
 have K6 := Lib.hid (K6.out.below hb8)
 have K8 := Lib.hid (K8.out.below hb8)
 have HB := Lib.hid (HB.out.trans (hb8.mono HB.out.size))
 clear hb8
 clear hw8
 obtain ⟨c6, c6_1, c6_2, c6_3, c6_4, c6_5, c6_6, c6_7, c6_8, l6⟩ := blkc9 K6.out
 by_cases h0 : E = 0
 ·subst h0
  obtain ⟨n, k, rfl, rfl, hn, hk, hVE, hV, hc1, hc2, hbr⟩ := HK.out (by first | rfl | trivial)
  have HHA := Lib.hid (fun w' => has_any n k w' hn (by omega))
  have HTU := Lib.hid (fun w' => show Calls Tryz.prog 137 #[.int .i64 (n : Int), .int .i64 (k : Int)] w' (fun e1 w1 => e1 = .returned (.int .i64 ((trn n k : Nat) : Int)) ∧ w' = w1) from turned_any n k w' hn (by omega))
  have HC1 := Lib.hid (fun (W : World) (hbw : Below w8.heap.size w8 W) => hc1 W (HB.out.trans (hbw.mono HB.out.size)))
  have HC2 := Lib.hid (fun (W : World) (hbw : Below w8.heap.size w8 W) => hc2 W (HB.out.trans (hbw.mono HB.out.size)))
  have HBR := Lib.hid hbr
  have HEX := Lib.hid (hVE.trans (HRB.out n k))
  have HVX := Lib.hid (hV.trans (HRV.out n k))
  have HVE := Lib.hid hVE
  clear hVE hV hc1 hc2 hbr HK HBD HRB HRV hn hk
  generalize curE m n = CE1 at *
  generalize curE m (trn n k) = CE2 at *
  generalize rbrE m n k = RE at *
  generalize brkC m ⟨vo, lo, hi, ci, br, re⟩ n k load = BC at *
  generalize brkV m ⟨vo, lo, hi, ci, br, re⟩ n k load = BV at *
  obtain ⟨tb, htb⟩ : ∃ tb, tb = n.testBit k := ⟨_, rfl⟩
  rw [← htb] at HEX HHA
  clear htb
  go_wp2_with fail
  refine (HHA.out _).mono ?_
  rintro e9 w9 ⟨rfl, rfl⟩
  cases tb
  ·have HE0 := Lib.hid (show VE = 20 from HEX.out.trans (if_pos rfl))
   have HV0 := Lib.hid (show V = ((0, 0), (0, 0)) from HVX.out.trans (if_neg (by rw [← HVE.out, HE0.out]; decide)))
   clear HEX HVX HVE HC1 HC2 HBR HTU
   obtain ⟨d80, d81, d82, d83, _⟩ := blkc4 K8.out
   have f80 := blk_fz K8.out 0
   have f81 := blk_fz K8.out 1
   have f82 := blk_fz K8.out 2
   have f83 := blk_fz K8.out 3
   have l8 := K8.out.lt
   go_wp2
   refine bodyPost_ret (v := .tuple #[.agg #[.int .i64 0, .int .i64 0, .int .i64 0, .int .i64 0], .int .i64 20]) ?_ rfl ⟨by rw [HV0.out, HE0.out], set4_below HB.out hx8 _ _ _ _⟩
   have kw := set4_same K8.out (.int .i64 0) (.int .i64 0) (.int .i64 0) (.int .i64 0)
   unfold set4 at kw
   generalize World.setCell (World.setCell (World.setCell (World.setCell _ _ _) _ _) _ _) _ _ = wz at *
   obtain ⟨e80, e81, e82, e83, _⟩ := blkc4 kw
   simp [results, Tryz.results59, go_sem, e80, e81, e82, e83]
  ·have HEY := Lib.hid (HEX.out.trans (if_neg (by decide)))
   clear HEX
   go_wp2_with fail
   refine later_of_eq 8 (by kernel_rfl) (by kernel_rfl) ?_; simp only [List.take_succ_cons, List.take_zero, List.drop_succ_cons, List.drop_zero]; repeat go_big_quiet_step(first | with_reducible exact calls_later_same (HTU.out _) | with_reducible exact calls_later (HC1.out _ (Later.below _)) | with_reducible exact calls_later (HC2.out _ (Later.below _)))
   refine wpQuiet_nil ?_; intro w9 hb9
   have K6 := Lib.hid (K6.out.below hb9)
   have K8 := Lib.hid (K8.out.below hb9)
   have HB := Lib.hid (HB.out.trans (hb9.mono HB.out.size))
   clear hb9
   clear c6 c6_1 c6_2 c6_3 c6_4 c6_5 c6_6 c6_7 c6_8 l6
   go_wp2_with fail
   refine (t_first2 _ _ _ _ _ _ (by rfl) (by simp)).mono ?_
   rintro e10 w10 ⟨rfl, hw10⟩
   rw [← HEY.out]
   have hb10 : Below w9.heap.size w9 w10 := by rw [← hw10]; (repeat' first|(with_reducible first|exact bw1|assumption|refine bw2 ?_ _|refine bw3 ?_ ?_ _|refine bw4 ?_|refine bw5 ?_ ?_ _|refine bw6 (by assumption) ?_ ?_|exact And.left (by assumption))|go_size)
   have K6 := Lib.hid (K6.out.below hb10)
   have K8 := Lib.hid (K8.out.below hb10)
   have HB := Lib.hid (HB.out.trans (hb10.mono HB.out.size))
   clear hb10
   clear hw10 HC1 HC2 HTU
   obtain ⟨c6, c6_1, c6_2, c6_3, c6_4, c6_5, c6_6, c6_7, c6_8, l6⟩ := blkc9 K6.out
   by_cases h1 : VE = 0
   ·have hz := HEY.out
    rw [h1] at hz
    have hz2 := firstErr_cons.1 hz.symm
    have hz3 := firstErr_cons.1 hz2.2
    have HBX := Lib.hid (HBR.out hz2.1 hz3.1)
    have HE0 := Lib.hid h1
    have HV0 := Lib.hid (show V = (BC, BV) from HVX.out.trans (if_pos (by rw [← HVE.out, h1])))
    have hbx := HBX.out w10 HB.out
    have HBY := Lib.hid hbx
    rw [h1]
    clear hz hz2 hz3 h1 HBX hbx HBR HEY HVX HVE
    go_wp2_with fail
    refine HBY.out.mono ?_
    rintro e11 w11 ⟨rfl, hb11⟩
    have K6 := Lib.hid (K6.out.below hb11)
    have K8 := Lib.hid (K8.out.below hb11)
    have HB := Lib.hid (HB.out.trans (hb11.mono HB.out.size))
    clear hb11
    clear c6 c6_1 c6_2 c6_3 c6_4 c6_5 c6_6 c6_7 c6_8 l6
    obtain ⟨d80, d81, d82, d83, _⟩ := blkc4 K8.out
    have f80 := blk_fz K8.out 0
    have f81 := blk_fz K8.out 1
    have f82 := blk_fz K8.out 2
    have f83 := blk_fz K8.out 3
    have l8 := K8.out.lt
    go_wp2
    refine bodyPost_ret (v := .tuple #[.agg #[.int .i64 BC.1, .int .i64 BC.2, .int .i64 BV.1, .int .i64 BV.2], .int .i64 0]) ?_ rfl ⟨by rw [HV0.out, HE0.out], set4_below HB.out hx8 _ _ _ _⟩
    have kw := set4_same K8.out (.int .i64 BC.1) (.int .i64 BC.2) (.int .i64 BV.1) (.int .i64 BV.2)
    unfold set4 at kw
    generalize World.setCell (World.setCell (World.setCell (World.setCell _ _ _) _ _) _ _) _ _ = wz at *
    obtain ⟨e80, e81, e82, e83, _⟩ := blkc4 kw
    simp [results, Tryz.results59, go_sem, e80, e81, e82, e83]
   ·have HE0 := Lib.hid (rfl : VE = VE)
    have hv0 : V = ((0, 0), (0, 0)) := HVX.out.trans (if_neg (by rw [← HVE.out]; exact h1))
    have HV0 := Lib.hid hv0
    have e2 := bne_iff_ne.2 h1
    clear h1 hv0 HEY HVX HVE HBR
    obtain ⟨d80, d81, d82, d83, _⟩ := blkc4 K8.out
    have f80 := blk_fz K8.out 0
    have f81 := blk_fz K8.out 1
    have f82 := blk_fz K8.out 2
    have f83 := blk_fz K8.out 3
    have l8 := K8.out.lt
    go_wp2
    refine bodyPost_ret (v := .tuple #[.agg #[.int .i64 0, .int .i64 0, .int .i64 0, .int .i64 0], .int .i64 VE]) ?_ rfl ⟨by rw [HV0.out], set4_below HB.out hx8 _ _ _ _⟩
    have kw := set4_same K8.out (.int .i64 0) (.int .i64 0) (.int .i64 0) (.int .i64 0)
    unfold set4 at kw
    generalize World.setCell (World.setCell (World.setCell (World.setCell _ _ _) _ _) _ _) _ _ = wz at *
    obtain ⟨e80, e81, e82, e83, _⟩ := blkc4 kw
    simp [results, Tryz.results59, go_sem, e80, e81, e82, e83]
 ·have e1 := bne_iff_ne.2 h0
  have HE0 := Lib.hid (HBD.out h0).1
  have HV0 := Lib.hid (HBD.out h0).2
  clear h0 HK HBD
  obtain ⟨d80, d81, d82, d83, _⟩ := blkc4 K8.out
  have f80 := blk_fz K8.out 0
  have f81 := blk_fz K8.out 1
  have f82 := blk_fz K8.out 2
  have f83 := blk_fz K8.out 3
  have l8 := K8.out.lt
  go_wp2
  refine bodyPost_ret (v := .tuple #[.agg #[.int .i64 0, .int .i64 0, .int .i64 0, .int .i64 0], .int .i64 E]) ?_ rfl ⟨by rw [HV0.out, HE0.out], set4_below HB.out hx8 _ _ _ _⟩
  have kw := set4_same K8.out (.int .i64 0) (.int .i64 0) (.int .i64 0) (.int .i64 0)
  unfold set4 at kw
  generalize World.setCell (World.setCell (World.setCell (World.setCell _ _ _) _ _) _ _) _ _ = wz at *
  obtain ⟨e80, e81, e82, e83, _⟩ := blkc4 kw
  simp [results, Tryz.results59, go_sem, e80, e81, e82, e83]
end Go.Proofs.YtidboecjllaofaaGreat

/- Fractions compared, of the reference. -/
namespace Go.Proofs.YtidboecjllaofaaGreat
open Go.RowKit
set_option linter.unusedVariables false
def cmpJ (x y : Int) : Int := if x < y then -1 else if y < x then 1 else 0
theorem bcmpJ_any (a1 a2 b1 b2 : Int) (w : World) (h1 : -4000000000000000000 ≤ a1 * b2 ∧ a1 * b2 ≤ 4000000000000000000) (h2 : -4000000000000000000 ≤ b1 * a2 ∧ b1 * a2 ≤ 4000000000000000000) :
    Calls Tryz.prog 68 #[.agg #[.int .i64 a1, .int .i64 a2], .agg #[.int .i64 b1, .int .i64 b2]] w fun e' w' => e' = .returned (.int .i64 (cmpJ (a1 * b2) (b1 * a2))) ∧ Below w.heap.size w w' := by
 obtain ⟨R, hR⟩ : ∃ R, R = cmpJ (a1 * b2) (b1 * a2) := ⟨_, rfl⟩
 rw [← hR]
 have HR := Lib.hid hR
 clear hR
 go_enter Tryz.func68, Tryz.ntmps68
 go_wp2
 go_quiet (fail)
 go_wp2_with fail
 all_goals
  go_ret
  refine ⟨ret_int (by rw [HR.out]; unfold cmpJ; (repeat' split) <;> first | rfl | omega), ?_⟩
  (repeat' first|(with_reducible first|exact bw1|assumption|refine bw2 ?_ _|refine bw3 ?_ ?_ _|refine bw4 ?_|refine bw5 ?_ ?_ _|refine bw6 (by assumption) ?_ ?_|exact And.left (by assumption))|go_size)
end Go.Proofs.YtidboecjllaofaaGreat
