import Derived.Test.YtdjinmieogpgcaaGreatMRFai
/- Invariants: the reference. -/
namespace Go.Proofs.YtdjinmieogpgcaaGreat
open Go.RowKit Go.Shelf
set_option linter.unusedVariables false
set_option linter.unusedSimpArgs false
set_option maxHeartbeats 4000000 in
set_option maxRecDepth 100000 in
theorem rCheckInvariant_any (m : Mac) (l : Lim) (L : List Int) (ac ab ag : Option Addr) (n cc nb cb ng cg : Nat) (w : World) (hm : MacV m) (hl : limE l = 0) (hb : BrR w ab nb m.br) (hg : GrR w ag ng m.gs) (hc : IntsR w ac n L) :
    Calls Tryz.prog 20 #[.agg #[.slice ab nb cb, .int .i64 m.st, .slice ag ng cg], .agg #[.int .i64 l.volt, .int .i64 l.lo, .int .i64 l.hi, .int .i64 l.circ, .int .i64 l.brk, .int .i64 l.ret], .slice ac n cc] w
     fun e' w' => e' = .returned (.tuple #[.int .i64 (invX m l L).1, .int .i64 (invX m l L).2]) ∧ Below w.heap.size w w' := by
 have hlen := hb.len
 have hn6 : nb ≤ 6 := by rw [← hlen]; exact hm.n1
 have hLn := hc.len
 have hnn := hc.small
 have HST := Lib.hid (fun (s : Int) (W : World) => rStaE_any m.st nb cb ng cg ab ag s W (by omega))
 have HCS := Lib.hid (fun (s : Nat) (hs : s < 2 ^ nb) (W : World) (hbw : Below w.heap.size w W) => rcheckState_any m l s ab ag nb cb ng cg W hm hl (hb.below hbw) hs)
 have HCM := Lib.hid (fun (s i : Nat) (hs : s < 2 ^ nb) (hi : i < nb) (W : World) (hbw : Below w.heap.size w W) => rcheckMove_any m l s i ab ag nb cb ng cg W hm hl (hb.below hbw) (hg.below hbw) hs hi)
 have HMV := Lib.hid (fun (s : Nat) (hs : s < 64) (W : World) (hbw : Below w.heap.size w W) => rMoves_any m s ab ag nb cb ng cg W hm hlen (hg.below hbw) hs)
 have HML := Lib.hid (fun (s c : Nat) (h : c ∈ movL m s) => show c < nb from by rw [← hlen]; exact movL_lt h)
 have HCH := Lib.hid (fun (s i : Nat) (W : World) (hs : s < 64) (hi : i < 6) => changed_any s i W hs hi)
 have HHAS := Lib.hid (fun (x : Int) (W : World) (hbw : Below w.heap.size w W) => cntHas_any x L ac n cc W (hc.below hbw))
 have HIN := Lib.hid (fun (W : World) (hbw : Below w.heap.size w W) => hc.below hbw)
 have HHI := Lib.hid (fun (k : Nat) (hk : k < n) (h0 : ∀ j, j < k → kepE m l L j = 0) (h : kepE m l L k ≠ 0) => invX_hit (by rw [hc.len]; exact hk) h0 h)
 have HEN := Lib.hid (fun (h0 : ∀ j, j < n → kepE m l L j = 0) => invX_end (by rw [hc.len]; exact h0))
 have HK1 := Lib.hid (fun (k : Nat) => show staE nb (L.getD k 0) ≠ 0 → kepE m l L k = staE nb (L.getD k 0) from by rw [← hlen]; exact kep1)
 have HK2 := Lib.hid (fun (k : Nat) => show staE nb (L.getD k 0) = 0 → kepB L k = false → kepE m l L k = 9 from by rw [← hlen]; exact kep2)
 have HK3 := Lib.hid (fun (k : Nat) => show staE nb (L.getD k 0) = 0 → kepB L k = true → kepE m l L k = if safE m l (L.getD k 0).toNat ≠ 0 then safE m l (L.getD k 0).toNat else kmsE m l L (L.getD k 0).toNat (movL m (L.getD k 0).toNat) from by rw [← hlen]; exact kep3)
 have HKM := Lib.hid (fun (s c : Nat) => kmE_split m l L s c)
 have HKS := Lib.hid (fun (s q : Nat) (hq : q < (movL m s).length) (h0 : ∀ j, j < q → kmE m l L s ((movL m s).getD j 0) = 0) (h : kmE m l L s ((movL m s).getD q 0) ≠ 0) => show kmsE m l L s (movL m s) = kmE m l L s ((movL m s).getD q 0) from fe_at _ q hq h0 h)
 have HKZ := Lib.hid (fun (s : Nat) (h0 : ∀ j, j < (movL m s).length → kmE m l L s ((movL m s).getD j 0) = 0) => show kmsE m l L s (movL m s) = 0 from firstErr_all0 _ (fun x hx => by
  obtain ⟨c, hc, rfl⟩ := List.mem_map.1 hx
  obtain ⟨j, hj, rfl⟩ := List.mem_iff_getElem.1 hc
  have := h0 j hj
  rwa [List.getD_eq_getElem?_getD, List.getElem?_eq_getElem hj] at this))
 have HSN := Lib.hid (fun (s : Int) (h : staE nb s = 0) => show ∃ t : Nat, s = t ∧ t < 2 ^ nb from by
  have h1 := staE_zero.1 h
  have : ((2 ^ nb : Nat) : Int) = (2 : Int) ^ nb := by push_cast; rfl
  exact ⟨s.toNat, by omega, by omega⟩)
 have HKB := Lib.hid (fun k => show kepB L k = (decide (k = 0) || decide (L.getD (k - 1) 0 < L.getD k 0)) from rfl)
 generalize invX m l L = V at *
 generalize kepE m l L = KE at *
 generalize kepB L = KB at *
 generalize kmsE m l L = KMS at *
 generalize kmE m l L = KM at *
 generalize safE m l = SE at *
 generalize chgE m l = CE at *
 generalize movL m = MV at *
 obtain ⟨vo, lo, hi, ci, br, re⟩ := l
 obtain ⟨st, hst⟩ : ∃ x, x = m.st := ⟨_, rfl⟩
 rw [← hst] at HST HCS HCM HMV HEN ⊢
 simp only at HCS HCM ⊢
 clear hm hl hb hg hc hlen hst
 go_enter Tryz.func20, Tryz.ntmps20
 go_upto_region 1 with (fail)
 obtain ⟨w2, hW2⟩ : ∃ w2, w2 = (w.alloc (Obj.cells #[.slice ab nb cb, .int .i64 st, .slice ag ng cg] 45)).alloc (Obj.cells #[.int .i64 vo, .int .i64 lo, .int .i64 hi, .int .i64 ci, .int .i64 br, .int .i64 re] 47) := ⟨_, rfl⟩
 obtain ⟨hb2, k3, k4⟩ := alA2 w (Obj.cells #[.slice ab nb cb, .int .i64 st, .slice ag ng cg] 45) (Obj.cells #[.int .i64 vo, .int .i64 lo, .int .i64 hi, .int .i64 ci, .int .i64 br, .int .i64 re] 47)
 rw [← hW2] at hb2 k3 k4
 rw [← hW2]
 obtain ⟨X3, hX3⟩ : ∃ X, X = w.heap.size := ⟨_, rfl⟩
 obtain ⟨X4, hX4⟩ : ∃ X, X = w.heap.size + 1 := ⟨_, rfl⟩
 rw [← hX4] at k4
 have k3 : BlkR w2 X3 (.cells #[.slice ab nb cb, .int .i64 st, .slice ag ng cg] 45) := by rw [hX3]; exact k3
 simp only [← hX4]
 simp only [← hX3]
 have K3 := Lib.hid k3
 have K4 := Lib.hid k4
 have HB := Lib.hid hb2
 clear hW2 hX3 hX4 hb2 k3 k4
 go_wp2_with fail
 go_loopw [8] (fun v8 wr => ∃ k : Nat, v8 = .int .i64 (k : Int) ∧ k ≤ n ∧ Hid (∀ j, j < k → KE j = 0) ∧ Hid (BlkR wr X3 (.cells #[.slice ab nb cb, .int .i64 st, .slice ag ng cg] 45)) ∧ Hid (BlkR wr X4 (.cells #[.int .i64 vo, .int .i64 lo, .int .i64 hi, .int .i64 ci, .int .i64 br, .int .i64 re] 47)) ∧ Hid (Below w.heap.size w wr)) (fun x _ => n - (intOf x).toNat)
 case atStart => exact ⟨0, rfl, Nat.zero_le _, Lib.hid (fun j h => absurd h (by omega)), K3, K4, HB⟩
 case round =>
  clear K3 K4 HB
  obtain ⟨k, rfl, hk, HK0, K3, K4, HB⟩ := hrel
  have i0 : (0 : Int) ≤ (k : Int) := by omega
  by_cases hlt : k < n
  ·have i1 : (k : Int) < (n : Int) := by omega
   obtain ⟨b, o, rfl, hbl, hca⟩ := (HIN.out _ (Below.refl _ _)).addr (by omega)
   obtain ⟨S, hS⟩ : ∃ S, S = L.getD k 0 := ⟨_, rfl⟩
   have HCK := Lib.hid (fun (W : World) (hbw : Below w.heap.size w W) => show W.cell? ⟨b, o + k, none⟩ = some (.int .i64 S) from by
    rw [hbw.cell (by exact hbl), hS]; exact hca k hlt)
   have HCP := Lib.hid (fun (W : World) (hbw : Below w.heap.size w W) => show W.cell? ⟨b, o + (k - 1), none⟩ = some (.int .i64 (L.getD (k - 1) 0)) from by
    rw [hbw.cell (by exact hbl)]; exact hca (k - 1) (by omega))
   have HBL := Lib.hid hbl
   have HHk := Lib.hid (fun h => HHI.out k hlt HK0.out h)
   have HKN := Lib.hid (fun (h : KE k = 0) => show ∀ j, j < k + 1 → KE j = 0 from fun j hj => by
    by_cases hjk : j = k
    ·subst hjk; exact h
    ·exact HK0.out j (by omega))
   have H1 := Lib.hid (HK1.out k)
   have H2 := Lib.hid (HK2.out k)
   have H3 := Lib.hid (HK3.out k)
   have H4 := Lib.hid (HKB.out k)
   rw [← hS] at H1 H2 H3 H4
   have HSk := Lib.hid hS
   generalize KB k = PB at *
   generalize KE k = KK at *
   clear HK0 HK1 HK2 HK3 HKB HHI hca hbl hS
   have ck := HCK.out wr HB.out
   have lb : b < wr.heap.size := by have := HBL.out; have := HB.out.size; omega
   obtain ⟨c3, c3_1, c3_2, l3⟩ := blkc3 K3.out
   obtain ⟨c4, c4_1, c4_2, c4_3, c4_4, c4_5, l4⟩ := blkc6 K4.out
   go_wp2_with fail
   refine later_all (by kernel_rfl) (by kernel_rfl) ?_; repeat go_big_quiet_step(with_reducible exact calls_later (HST.out _ _))
   refine wpQuiet_nil ?_; intro w5 hb5
   clear c3 c3_1 c3_2 l3 c4 c4_1 c4_2 c4_3 c4_4 c4_5 l4
   have HB := bwt HB hb5
   have K3 := Lib.hid (K3.out.below hb5)
   have K4 := Lib.hid (K4.out.below hb5)
   clear ck lb hb5
   by_cases h1 : staE nb S = 0
   rotate_left
   ·have hK := H1.out h1
    have hX := HHk.out (by rw [hK]; exact h1)
    rw [hK] at hX
    have e1 := bne_iff_ne.2 h1
    clear HHk HKN H1 H2 H3 H4 h1 hK HEN
    go_wp2
    go_ret2
    exact ⟨by rw [hX]; rfl, HB.out⟩
   obtain ⟨s, hsn, hs⟩ := HSN.out S h1
   rw [h1]
   have H2b := Lib.hid (H2.out h1)
   have H3b := Lib.hid (H3.out h1)
   clear h1 H2 H3 H1
   subst hsn
   rw [Int.toNat_natCast] at H3b
   have hs64 : s < 64 := Nat.lt_of_lt_of_le hs (Nat.le_trans (Nat.pow_le_pow_right (by omega) hn6) (by decide))
   go_upto_region 7 with (fail)
   have ck := HCK.out _ HB.out
   have lb : b < w5.heap.size := by have := HBL.out; have := HB.out.size; omega
   go_cut [43] from 30 to 44 (fun v43 wx => v43 = .bool (!PB) ∧ Hid (Below w5.heap.size w5 wx))
   case first =>
    by_cases hk0 : k = 0
    ·have q0 : ¬ 0 < k := by omega
     have hP : PB = true := by rw [H4.out]; simp [hk0]
     clear hk0
     go_wp2_with fail
     refine later_all (by kernel_rfl) (by kernel_rfl) ?_; repeat go_big_quiet_step(fail)
     refine wpQuiet_nil ?_; intro w6 hb6
     go_wp2_with fail
     go_meet
     case rel => exact ⟨by first | (rw [hP]; rfl) | (rw [hP, decide_eq_false (by omega)]; rfl), Lib.hid hb6⟩
    ·have q0 : 0 < k := by omega
     obtain ⟨j, hj⟩ : ∃ j, j = k - 1 := ⟨_, rfl⟩
     have cj := HCP.out _ HB.out
     have hP4 := H4.out
     rw [← hj] at cj hP4
     generalize L.getD j 0 = T at *
     have wj : IntKind.i64.wrap ((k : Int) - 1) = (j : Int) := by rw [IntKind.wrap_i64]; omega
     have j0 : (0 : Int) ≤ (j : Int) := by omega
     have j1 : (j : Int) < (n : Int) := by omega
     rw [decide_eq_false hk0, Bool.false_or] at hP4
     have HP4 := Lib.hid hP4
     clear hk0 hj hP4
     by_cases hST : (s : Int) ≤ T
     ·have hP : PB = false := by rw [HP4.out]; exact decide_eq_false (by omega)
      go_wp2_with fail
      refine later_all (by kernel_rfl) (by kernel_rfl) ?_; repeat go_big_quiet_step(fail)
      refine wpQuiet_nil ?_; intro w6 hb6
      go_wp2_with fail
      go_meet
      case rel => exact ⟨by first | (rw [hP]; rfl) | (rw [hP, decide_eq_false (by omega)]; rfl), Lib.hid hb6⟩
     ·have hP : PB = true := by rw [HP4.out]; exact decide_eq_true (by omega)
      go_wp2_with fail
      refine later_all (by kernel_rfl) (by kernel_rfl) ?_; repeat go_big_quiet_step(fail)
      refine wpQuiet_nil ?_; intro w6 hb6
      go_wp2_with fail
      go_meet
      case rel => exact ⟨by first | (rw [hP]; rfl) | (rw [hP, decide_eq_false (by omega)]; rfl), Lib.hid hb6⟩
   case rest =>
    obtain ⟨w6, rfl⟩ : ∃ w', w' = wc := ⟨wc, rfl⟩
    obtain ⟨rfl, hb6⟩ := hcut
    have hb6 := hb6.out
    have HB := bwt HB hb6
    have K3 := Lib.hid (K3.out.below hb6)
    have K4 := Lib.hid (K4.out.below hb6)
    clear hb6 ck lb
    by_cases hPB : PB = false
    ·have hK := H2b.out hPB
     have hX := HHk.out (by rw [hK]; decide)
     rw [hK] at hX
     subst hPB
     clear HHk HKN H2b H3b H4 HEN
     go_wp2
     go_ret2
     exact ⟨by rw [hX]; rfl, HB.out⟩
    have hPB1 : PB = true := by simpa using hPB
    have H3c := Lib.hid (H3b.out hPB1)
    subst hPB1
    clear hPB H2b H3b H4
    have ck := HCK.out _ HB.out
    have lb : b < w6.heap.size := by have := HBL.out; have := HB.out.size; omega
    obtain ⟨c3, c3_1, c3_2, l3⟩ := blkc3 K3.out
    obtain ⟨c4, c4_1, c4_2, c4_3, c4_4, c4_5, l4⟩ := blkc6 K4.out
    have HCSs := Lib.hid (fun (W : World) (hbw : Below w6.heap.size w6 W) => HCS.out s hs W (HB.out.trans (hbw.mono HB.out.size)))
    go_wp2_with fail
    refine later_all (by kernel_rfl) (by kernel_rfl) ?_; repeat go_big_quiet_step(with_reducible exact calls_later (HCSs.out _ (Later.below _)))
    refine wpQuiet_nil ?_; intro w7 hb7
    clear c3 c3_1 c3_2 l3 c4 c4_1 c4_2 c4_3 c4_4 c4_5 l4
    have HB := bwt HB hb7
    have K3 := Lib.hid (K3.out.below hb7)
    have K4 := Lib.hid (K4.out.below hb7)
    clear ck lb hb7 HCSs
    generalize SE s = S1 at *
    by_cases h2 : S1 = 0
    rotate_left
    ·have hK := H3c.out
     rw [if_pos h2] at hK
     have hX := HHk.out (by rw [hK]; exact h2)
     rw [hK] at hX
     have e1 := bne_iff_ne.2 h2
     clear HHk HKN H3c h2 hK HEN
     go_wp2
     go_ret2
     exact ⟨by rw [hX]; rfl, HB.out⟩
    subst h2
    have H3d := Lib.hid (H3c.out.trans (if_neg (by simp)))
    clear H3c
    have ck := HCK.out _ HB.out
    have lb : b < w7.heap.size := by have := HBL.out; have := HB.out.size; omega
    obtain ⟨c3, c3_1, c3_2, l3⟩ := blkc3 K3.out
    obtain ⟨c4, c4_1, c4_2, c4_3, c4_4, c4_5, l4⟩ := blkc6 K4.out
    go_upto_region 12 with (fail)
    go_wp2_with fail
    have HMVs := Lib.hid (fun (W : World) (hbw : Below w7.heap.size w7 W) => HMV.out s hs64 W (HB.out.trans (hbw.mono HB.out.size)))
    refine wp_region_laterM (B := w7.heap.size) [(true, 0), (true, 1), (true, 2), (true, 3), (true, 4), (false, 5), (true, 6)] (by kernel_rfl) (by kernel_rfl) ?_; simp only [opsOf, List.filterMap_cons, List.filterMap_nil, List.getElem?_toArray, List.getElem?_cons_zero, List.getElem?_cons_succ, Option.map_some]
    repeat (refine mix_head ?_; (show wpQuiet _ _ _ _ (_ :: _) _; go_big_quiet_step (fail)); refine wpQuiet_nil ?_)
    refine mix_tail ?_; go_wp2_with fail
    refine (HMVs.out _ (by (first|exact bwg|go_size))).mono ?_
    rintro e8 w8 ⟨aM, nM, cM, rfl, hb8, hml⟩
    have hN : Below w7.heap.size w7 w8 := (show Below w7.heap.size w7 w7.drew by (first|exact bwg|go_size)).trans (hb8.mono (by simp))
    go_wp2_with fail
    refine tailL_mk hN ?_
    repeat (refine mix_head ?_; (show wpQuiet _ _ _ _ (_ :: _) _; go_big_quiet_step (fail)); refine wpQuiet_nil ?_)
    refine mix_nil ?_
    clear c3 c3_1 c3_2 l3 c4 c4_1 c4_2 c4_3 c4_4 c4_5 l4
    have HB := bwt HB hN
    have K3 := Lib.hid (K3.out.below hN)
    have K4 := Lib.hid (K4.out.below hN)
    clear ck lb hb8 hN HMVs
    have hmn : (MV s).length = nM := by have := hml.len; rwa [nats_len] at this
    have HMI := Lib.hid hml
    have hM64 := hml.small
    clear hml
    go_wp2_with fail
    go_loopw [12] (fun v12 wq => ∃ q : Nat, v12 = .int .i64 (q : Int) ∧ q ≤ nM ∧ Hid (∀ j, j < q → KM s ((MV s).getD j 0) = 0) ∧ Hid (Below w8.heap.size w8 wq)) (fun x _ => nM - (intOf x).toNat)
    case atStart => exact ⟨0, rfl, Nat.zero_le _, Lib.hid (fun j h => absurd h (by omega)), Lib.hid (Below.refl _ _)⟩
    case round =>
     obtain ⟨wq, rfl⟩ : ∃ x, x = wr := ⟨wr, rfl⟩
     obtain ⟨q, rfl, hq, HQ0, HBq⟩ := hrel
     have q0 : (0 : Int) ≤ (q : Int) := by omega
     have HB9 := bwt HB HBq.out
     by_cases hql : q < nM
     ·have q1 : (q : Int) < (nM : Int) := by omega
      obtain ⟨c, hc⟩ : ∃ c, c = (MV s).getD q 0 := ⟨_, rfl⟩
      have hcn : c < nb := HML.out s c (by rw [hc, List.getD_eq_getElem?_getD, List.getElem?_eq_getElem (by rw [hmn]; exact hql)]; exact List.getElem_mem _)
      obtain ⟨bm, om, rfl, hbm, hmc⟩ := (HMI.out.below HBq.out).addr (by omega)
      have hcq := hmc q hql
      rw [nats_getD, ← hc] at hcq
      have K3q := Lib.hid (K3.out.below HBq.out)
      have K4q := Lib.hid (K4.out.below HBq.out)
      have HKSq := Lib.hid (HKS.out s q (by rw [hmn]; exact hql) HQ0.out)
      have HKMc := Lib.hid (HKM.out s c)
      rw [← hc] at HKSq
      have HQN := Lib.hid (fun (h : KM s c = 0) => show ∀ j, j < q + 1 → KM s ((MV s).getD j 0) = 0 from fun j hj => by
       by_cases hjq : j = q
       ·subst hjq; rw [← hc]; exact h
       ·exact HQ0.out j (by omega))
      have HCMc := Lib.hid (fun (W : World) (hbw : Below w.heap.size w W) => HCM.out s c hs hcn W hbw)
      have HCHc := Lib.hid (fun (W : World) => HCH.out s c W hs64 (by omega))
      have HHASc := Lib.hid (fun (W : World) (hbw : Below w.heap.size w W) => HHAS.out ((trn s c : Nat) : Int) W hbw)
      generalize trn s c = T at *
      generalize L.any (fun q : Int => decide (((T : Nat) : Int) = q)) = HA at *
      generalize KM s c = KMc at *
      generalize CE s c = CEc at *
      have ck := HCK.out _ HB9.out
      have lb : b < wq.heap.size := by have := HBL.out; have := HB9.out.size; omega
      have lm : bm < wq.heap.size := hbm
      obtain ⟨c3, c3_1, c3_2, l3⟩ := blkc3 K3q.out
      obtain ⟨c4, c4_1, c4_2, c4_3, c4_4, c4_5, l4⟩ := blkc6 K4q.out
      have HCMq := Lib.hid (fun (W : World) (hbw : Below wq.heap.size wq W) => HCMc.out W (HB9.out.trans (hbw.mono HB9.out.size)))
      clear hc hmc hcn
      go_wp2_with fail
      refine later_all (by kernel_rfl) (by kernel_rfl) ?_; repeat go_big_quiet_step(with_reducible exact calls_later (HCMq.out _ (Later.below _)))
      refine wpQuiet_nil ?_; intro wp hbp
      have ckp := HCK.out _ (HB9.out.trans (hbp.mono HB9.out.size))
      have HB10 := bwt HB9 hbp
      have HBp := Lib.hid hbp
      have lbp : b < wp.heap.size := by have := hbp.size; omega
      have lmp : bm < wp.heap.size := by have := hbp.size; omega
      have cmp : wp.cell? ⟨bm, om + q, none⟩ = some (.int .i64 (c : Int)) := (hbp.cell (by exact hbm)).trans hcq
      clear ck lb lm hcq hbm hbp c3 c3_1 c3_2 l3 c4 c4_1 c4_2 c4_3 c4_4 c4_5 l4 HCMq HCMc
      by_cases hce : CEc = 0
      rotate_left
      ·have hK := HKMc.out
       rw [if_pos hce] at hK
       have hS := HKSq.out (by rw [hK]; exact hce)
       rw [hK] at hS
       have hKK := H3d.out
       rw [hS] at hKK
       have hX := HHk.out (by rw [hKK]; exact hce)
       rw [hKK] at hX
       have e1 := bne_iff_ne.2 hce
       have HB := HB10
       clear HHk HKN H3d hce hK hS hKK HEN HKSq HQN HKMc HKZ HKS HKM
       go_wp2
       go_ret2
       exact ⟨by rw [hX]; rfl, HB.out⟩
      subst hce
      have HKMd := Lib.hid (HKMc.out.trans (if_neg (by simp)))
      have HHAp := Lib.hid (fun (W : World) (hbw : Below wp.heap.size wp W) => HHASc.out W (HB10.out.trans (hbw.mono HB10.out.size)))
      clear HKMc HHASc
      go_wp2_with fail
      refine later_all (by kernel_rfl) (by kernel_rfl) ?_; repeat go_big_quiet_step(first | (with_reducible exact calls_later_same (HCHc.out _)) | (with_reducible exact calls_later_same (HHAp.out _ (Later.below _))))
      refine wpQuiet_nil ?_; intro wp2 hbp2
      have HB11 := bwt HB10 hbp2
      have HBq2 := Lib.hid (HBq.out.trans ((HBp.out.trans (hbp2.mono HBp.out.size)).mono HBq.out.size))
      clear hbp2 ckp lbp lmp cmp HHAp HCHc HBp
      cases HA
      ·have hK : KMc = 14 := HKMd.out
       have hS := HKSq.out (by rw [hK]; decide)
       rw [hK] at hS
       have hKK := H3d.out
       rw [hS] at hKK
       have hX := HHk.out (by rw [hKK]; decide)
       rw [hKK] at hX
       have HB := HB11
       clear HHk HKN H3d hK hS hKK HEN HKSq HQN HKMd HKZ HKS HKM
       go_wp2
       go_ret2
       exact ⟨by rw [hX]; rfl, HB.out⟩
      ·have hK : KMc = 0 := HKMd.out
       have HQ1 := Lib.hid (HQN.out hK)
       clear HKMd hK HKSq HQN
       go_wp2
       refine ⟨⟨q + 1, by go_num, by omega, HQ1, HBq2⟩, ?_⟩
       simp only [intOf]; omega
     ·obtain rfl : q = nM := by omega
      have hS := HKZ.out s (by rw [hmn]; exact HQ0.out)
      have hKK := H3d.out
      rw [hS] at hKK
      have HK1 := Lib.hid (HKN.out hKK)
      have K3q := Lib.hid (K3.out.below HBq.out)
      have K4q := Lib.hid (K4.out.below HBq.out)
      clear HHk HKN H3d hS hKK HKZ HKS HKM
      go_wp2
      refine ⟨⟨k + 1, by go_num, by omega, HK1, K3q, K4q, HB9⟩, ?_⟩
      simp only [intOf]; omega
  ·obtain rfl : k = n := by omega
   have hE := HEN.out HK0.out
   have HHA := Lib.hid (fun (W : World) (hbw : Below w.heap.size w W) => HHAS.out st W hbw)
   generalize L.any (fun q : Int => decide (st = q)) = HA at *
   obtain ⟨c3, c3_1, c3_2, l3⟩ := blkc3 K3.out
   clear HHI HEN HHAS
   go_wp2_with fail
   refine (HHA.out _ HB.out).mono ?_
   rintro e7 w7 ⟨rfl, rfl⟩
   cases HA
   ·skip
    go_wp2
    go_ret2
    exact ⟨by rw [hE]; rfl, HB.out⟩
   ·skip
    go_wp2
    go_ret2
    exact ⟨by rw [hE]; rfl, HB.out⟩
end Go.Proofs.YtdjinmieogpgcaaGreat
