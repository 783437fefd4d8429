import Derived.Test.YtdjinmieogpgcaaGreatRFaiP
/- The first failure: the reference. -/
namespace Go.Proofs.YtdjinmieogpgcaaGreat
open Go.RowKit Go.Shelf
set_option linter.unusedVariables false
set_option linter.unusedSimpArgs false
attribute [local go_sem] Oper.semAt_some
theorem faiIn_pre (o : List (Nat × List Nat)) (s : Nat) (r : List Nat) : ∀ L : List Nat, ∃ t, faiIn o s r L = o ++ t := by
 refine snoc_ind ⟨[], by simp [faiIn]⟩ (fun L c ih => ?_)
 obtain ⟨t, ht⟩ := ih
 rw [faiIn_snoc]
 split
 ·exact ⟨t, ht⟩
 ·exact ⟨t ++ [(trn s c, r ++ [c])], by rw [ht, List.append_assoc]⟩
set_option maxHeartbeats 4000000 in
set_option maxRecDepth 100000 in
theorem rFailure_any (m : Mac) (l : Lim) (ab ag : Option Addr) (nb cb ng cg : Nat) (w : World) (hm : MacV m) (hl : limE l = 0) (hb : BrR w ab nb m.br) (hg : GrR w ag ng m.gs) :
    Calls Tryz.prog 21 #[.agg #[.slice ab nb cb, .int .i64 m.st, .slice ag ng cg], .agg #[.int .i64 l.volt, .int .i64 l.lo, .int .i64 l.hi, .int .i64 l.circ, .int .i64 l.brk, .int .i64 l.ret]] w fun e' w' => ∃ a' n' c', e' = .returned (.tuple #[.slice a' n' c', .bool (faiV m l).isSome]) ∧ Below w.heap.size w w' ∧ IntsR w' a' n' (nats ((faiV m l).getD [])) := by
 have hlen := hb.len
 have hn6 : nb ≤ 6 := by rw [← hlen]; exact hm.n1
 have hst := hm.st
 rw [hlen] at hst
 obtain ⟨N, hN⟩ : ∃ N, N = 2 ^ nb := ⟨_, rfl⟩
 have hN64 : N ≤ 64 := by rw [hN]; exact Nat.le_trans (Nat.pow_le_pow_right (by omega) hn6) (by decide)
 have hNi : ((N : Nat) : Int) = (2 : Int) ^ nb := by rw [hN]; push_cast; rfl
 have hwr : wrap64 ((2 : Int) ^ nb) = (N : Int) := by rw [(pow_facts nb (by omega)).1, hNi]
 have HMK := Lib.hid (fun (W : World) => makeBools Tryz.prog W 112 4 Tryz.underlying112 infoBool6 N (by omega))
 obtain ⟨S0, hS0⟩ : ∃ k : Nat, k = m.st.toNat := ⟨_, rfl⟩
 have hstk : m.st = (S0 : Int) := by omega
 have hS0N : S0 < N := by omega
 have hF0 : faiF m 0 = [(S0, [])] := by rw [hS0]; rfl
 have hFV : faiV m l = if safE m l S0 ≠ 0 then some [] else faiFrom m l 64 0 := by unfold faiV; rw [hS0]
 have HCS := Lib.hid (fun (W : World) (hbw : Below w.heap.size w W) => rcheckState_any m l S0 ab ag nb cb ng cg W hm hl (hb.below hbw) (by rw [← hN]; exact hS0N))
 have HCM := Lib.hid (fun (s i : Nat) (hs : s < N) (hi : i < nb) (W : World) (hbw : Below w.heap.size w W) => rcheckMove_any m l s i ab ag nb cb ng cg W hm hl (hb.below hbw) (hg.below hbw) (by rw [← hN]; exact hs) hi)
 have HMV := Lib.hid (fun (s : Nat) (hs : s < 64) (W : World) (hbw : Below w.heap.size w W) => rMovesO_any m s ab ag nb cb ng cg W hm hlen (hg.below hbw) hs)
 rw [hstk] at HCS HCM HMV ⊢
 have HF0 := Lib.hid hF0
 have HOK := Lib.hid (fun k => reaF_ok hm k)
 have HLN := Lib.hid hlen
 have HNN := Lib.hid hN
 have HHM := Lib.hid hm
 obtain ⟨V, hV⟩ : ∃ V, V = faiV m l := ⟨_, rfl⟩
 rw [← hV] at hFV ⊢
 have HFV := Lib.hid hFV
 have HRL := Lib.hid (fun k => show (faiF m k).length ≤ 64 from by
  have := (reaF_ok hm k).len hm
  rwa [← faiF_keys, List.length_map] at this)
 have HRT := Lib.hid (fun k p (h : p ∈ faiF m k) => show p.1 < N from by
  rw [hN, ← hlen]
  exact (reaF_ok hm k).lt p.1 (by rw [← faiF_keys]; exact List.mem_map.2 ⟨p, h, rfl⟩))
 have HRN := Lib.hid (fun k p (h : p ∈ faiF m k) => faiF_run m k p h)
 obtain ⟨CE, hCE⟩ : ∃ f, f = chgE m l := ⟨_, rfl⟩
 rw [← hCE] at HCM
 have HKF := Lib.hid (fun (k s : Nat) (r : List Nat) (h : (faiF m k)[k]? = some (s, r)) (hk : k < 64) (j : Nat) (hj : j < (movL m s).length) (h0 : ∀ i, i < j → CE s ((movL m s).getD i 0) = 0) (h1 : CE s ((movL m s).getD j 0) ≠ 0) => show faiFrom m l (64 - k) k = some (r ++ [(movL m s).getD j 0]) from by
  refine faiFrom_found hk ?_
  unfold faiK
  rw [h]
  show (badC m l s).map _ = _
  have : badC m l s = some ((movL m s).getD j 0) := find_fst _ j hj (fun i hi => decide_eq_false (by rw [← hCE]; intro hh; exact hh (h0 i hi))) (decide_eq_true (by rw [← hCE]; exact h1))
  rw [this]; rfl)
 have HKN := Lib.hid (fun (k s : Nat) (r : List Nat) (h : (faiF m k)[k]? = some (s, r)) (hk : k < 64) (h0 : ∀ i, i < (movL m s).length → CE s ((movL m s).getD i 0) = 0) => show faiFrom m l (64 - k) k = faiFrom m l (64 - (k + 1)) (k + 1) from by
  refine faiFrom_step hk ?_
  unfold faiK
  rw [h]
  show (badC m l s).map _ = _
  have : badC m l s = none := List.find?_eq_none.2 (fun c hc => by
   obtain ⟨i, hi, rfl⟩ := List.mem_iff_getElem.1 hc
   have := h0 i hi
   rw [List.getD_eq_getElem?_getD, List.getElem?_eq_getElem hi] at this
   rw [← hCE]
   simpa using this)
  rw [this]; rfl)
 have HKE := Lib.hid (fun (k : Nat) (h : (faiF m k).length ≤ k) => show faiFrom m l (64 - k) k = none from faiFrom_none (i := 0) h (64 - k))
 have HNX := Lib.hid (fun k (s : Nat) (r : List Nat) (h : (faiF m k)[k]? = some (s, r)) => show faiF m (k + 1) = faiIn (faiF m k) s r (movL m s) from faiF_next h)
 have HIL := Lib.hid (fun (k s : Nat) (r : List Nat) (hs : s < N) (j : Nat) => show (faiIn (faiF m k) s r ((movL m s).take j)).length ≤ 64 from by
  have h := (Rea.inn hm (reaF_ok hm k) (by rw [hlen, ← hN]; exact hs) ((movL m s).take j) (fun c hc => movL_lt (List.mem_of_mem_take hc))).len hm
  rw [← faiF_keys, ← faiIn_keys (faiF m k) s r, List.length_map] at h; exact h)
 simp only [kwN_made] at HMK
 clear hst hS0 hstk hF0 hb hg hlen hN hNi hm hl hV hFV hCE
 obtain ⟨FF, hFF⟩ : ∃ f, f = faiFrom m l := ⟨_, rfl⟩
 rw [← hFF] at HFV HKF HKN HKE
 clear hFF
 obtain ⟨vo, lo, hi, ci, br, re⟩ := l
 simp only at HCS HCM ⊢
 generalize safE m ⟨vo, lo, hi, ci, br, re⟩ S0 = SE at *
 go_enter Tryz.func21, Tryz.ntmps21
 go_upto_region 1 with (fail)
 obtain ⟨w1, hW1⟩ : ∃ w1, w1 = (w.alloc (Obj.cells #[.slice ab nb cb, .int .i64 (S0 : Int), .slice ag ng cg] 45)).alloc (Obj.cells #[.int .i64 vo, .int .i64 lo, .int .i64 hi, .int .i64 ci, .int .i64 br, .int .i64 re] 47) := ⟨_, rfl⟩
 obtain ⟨hb1, k1, k3⟩ := alA2 w (Obj.cells #[.slice ab nb cb, .int .i64 (S0 : Int), .slice ag ng cg] 45) (Obj.cells #[.int .i64 vo, .int .i64 lo, .int .i64 hi, .int .i64 ci, .int .i64 br, .int .i64 re] 47)
 rw [← hW1] at hb1 k1 k3
 rw [← hW1]
 obtain ⟨X1, hX1⟩ : ∃ X, X = w.heap.size := ⟨_, rfl⟩
 obtain ⟨X3, hX3⟩ : ∃ X, X = w.heap.size + 1 := ⟨_, rfl⟩
 rw [← hX3] at k3
 have k1 : BlkR w1 X1 (.cells #[.slice ab nb cb, .int .i64 (S0 : Int), .slice ag ng cg] 45) := by rw [hX1]; exact k1
 simp only [← hX3]
 simp only [← hX1]
 have x13 : X1 < X3 := by omega
 obtain ⟨q0, q1, q2, l1⟩ := blkc3 k1
 obtain ⟨c3, c3_1, c3_2, c3_3, c3_4, c3_5, l3⟩ := blkc6 k3
 have K1 := Lib.hid k1
 have K3 := Lib.hid k3
 have HB1 := Lib.hid hb1
 have HW1 := Lib.hid (show w.heap.size ≤ X1 by omega)
 clear hW1 hX1 hX3 hb1 k1 k3
 go_wp2_with fail
 refine (HCS.out _ HB1.out).mono ?_
 rintro e2 w2 ⟨rfl, hb2⟩
 have K1 := Lib.hid (K1.out.below hb2)
 have K3 := Lib.hid (K3.out.below hb2)
 have HB2 := bwt HB1 hb2
 clear hb2 HB1 HCS q0 q1 q2 l1 c3 c3_1 c3_2 c3_3 c3_4 c3_5 l3
 by_cases h0 : SE = 0
 rotate_left
 ·have hV := HFV.out
  rw [if_pos h0] at hV
  subst hV
  have e1 := bne_iff_ne.2 h0
  go_wp2
  go_ret2
  exact ⟨none, 0, 0, rfl, HB2.out, IntsR.nil _ _⟩
 subst h0
 have HFV1 := Lib.hid (HFV.out.trans (if_neg (by simp)))
 have q0 := blk_cell K1.out (i := 0) rfl
 have l1 := K1.out.lt
 clear HFV
 go_wp2_with fail
 rw [hwr, HMK.out]
 obtain ⟨w4, hW⟩ : ∃ w4, w4 = w2.alloc (Obj.cells (kwN N []) 4) := ⟨_, rfl⟩
 obtain ⟨hb4, k2⟩ := alA1 w2 (Obj.cells (kwN N []) 4)
 rw [← hW] at hb4 k2
 obtain ⟨X2, hX2⟩ : ∃ X, X = w2.heap.size := ⟨_, rfl⟩
 rw [← hW]
 rw [← hX2] at k2
 simp only [← hX2]
 have HX32 := Lib.hid (show X3 < X2 by rw [hX2]; exact K3.out.lt)
 have K1 := Lib.hid (K1.out.below hb4)
 have K3 := Lib.hid (K3.out.below hb4)
 have HB4 := bwt HB2 hb4
 have K2 := Lib.hid k2
 clear hW hb4 hX2 k2 q0 l1 HB2 hwr HMK
 have q1 := blk_cell K1.out (i := 1) rfl
 have l1 := K1.out.lt
 have l2 := K2.out.lt
 have hk0 := blk_cell K2.out (i := S0) (kwN_get N [] hS0N)
 have i0 : (0 : Int) ≤ (S0 : Int) := by omega
 have i1 : (S0 : Int) < (N : Int) := by omega
 have hz0 := blk_fz K2.out S0
 have n12 : X1 ≠ X2 := by have := HX32.out; omega
 have n21 : X2 ≠ X1 := by omega
 go_wp2_with fail
 obtain ⟨w5, hW5⟩ : ∃ w5, w5 = ((w4.setCell ⟨X2, S0, none⟩ (.bool true)).alloc (Obj.cells #[.int .i64 (S0 : Int)] 3)).alloc (Obj.cells #[.slice none 0 0] 48) := ⟨_, rfl⟩
 rw [← hW5]
 obtain ⟨a5, ha5⟩ : ∃ a, a = w4.heap.size := ⟨_, rfl⟩
 simp only [← ha5]
 have hsz : (w4.setCell ⟨X2, S0, none⟩ (.bool true)).heap.size = a5 := by rw [ha5]; simp
 have hx2w : w.heap.size ≤ X2 := by have := HW1.out; have := HX32.out; omega
 have hwa : w.heap.size ≤ a5 := by rw [ha5]; exact HB4.out.size
 have hx2a : X2 < a5 := by rw [ha5]; exact l2
 have HRF : RfO w a5 #[.slice ab nb cb, .int .i64 (S0 : Int), .slice ag ng cg] #[.int .i64 vo, .int .i64 lo, .int .i64 hi, .int .i64 ci, .int .i64 br, .int .i64 re] X1 X2 X3 N [S0] [S0] [[]] (.slice (some ⟨a5, 0, none⟩) 1 1) (.slice (some ⟨a5 + 1, 0, none⟩) 1 1) w5 := by
  have g1 : BlkR (w4.setCell ⟨X2, S0, none⟩ (.bool true)) X1 _ := (heap_set_neI n12).trans K1.out
  have g3 : BlkR (w4.setCell ⟨X2, S0, none⟩ (.bool true)) X3 _ := (heap_set_neI (by have := HX32.out; omega)).trans K3.out
  have g2 : BlkR (w4.setCell ⟨X2, S0, none⟩ (.bool true)) X2 (.cells (kwN N [S0]) 4) := by rw [show kwN N [S0] = (kwN N []).setIfInBounds S0 (.bool true) from (kwN_set N [] S0).symm]; exact blk_set K2.out S0 _
  have gb : Below w.heap.size w (w4.setCell ⟨X2, S0, none⟩ (.bool true)) := HB4.out.setCell hx2w _
  rw [hW5]
  clear hW5
  generalize w4.setCell ⟨X2, S0, none⟩ (.bool true) = W at *
  have hba : Below W.heap.size W ((W.alloc (Obj.cells #[.int .i64 (S0 : Int)] 3)).alloc (Obj.cells #[.slice none 0 0] 48)) := by (first|exact bwg|go_size)
  have o1 : (W.alloc (Obj.cells #[.int .i64 (S0 : Int)] 3)).ownsRow a5 3 1 (.slice (some ⟨a5, 0, none⟩) 1 1) 1 (icells (nats [S0])) := by
   rw [← hsz]
   exact owns_lit (w0 := W) (base := W.heap.size) (n := 1) (sz := 1) (cs := #[.int .i64 (S0 : Int)]) (by omega) (by omega) (by omega) rfl
  have o2 : ((W.alloc (Obj.cells #[.int .i64 (S0 : Int)] 3)).alloc (Obj.cells #[.slice none 0 0] 48)).ownsRow a5 48 1 (.slice (some ⟨a5 + 1, 0, none⟩) 1 1) 1 [.slice none 0 0] := by
   have hs2 : (W.alloc (Obj.cells #[.int .i64 (S0 : Int)] 3)).heap.size = a5 + 1 := by rw [World.size_alloc, hsz]
   rw [← hs2]
   exact owns_mono (owns_lit (w0 := W.alloc (Obj.cells #[.int .i64 (S0 : Int)] 3)) (base := (W.alloc (Obj.cells #[.int .i64 (S0 : Int)] 3)).heap.size) (n := 1) (sz := 1) (cs := #[.slice none 0 0]) (by omega) (by omega) (by omega) rfl) (by omega)
  refine ⟨g1.below hba, g2.below hba, g3.below hba, o1.alloc _, ⟨[.slice none 0 0], o2, rfl, fun i r hr => ?_⟩, gb.trans (hba.mono gb.size), by have := hba.size; omega⟩
  rcases i with _ | i
  ·simp at hr
   subst hr
   exact ⟨.slice none 0 0, rfl, none, 0, rfl, World.ownsRow_nil _ _ _ _, fun g hg => by simp [Value.ownBlock] at hg⟩
  ·simp at hr
 have HR := Lib.hid HRF
 clear hW5 ha5 hsz HRF K1 K2 K3 HB4 q1 l1 l2 hk0 hz0 n12 n21 i0 i1
 go_loopw [7, 8, 9] (fun v7 v8 v9 wr => ∃ (k q : Nat) (av ar : Option Addr) (cv cr : Nat), v7 = .slice av q cv ∧ v8 = .slice ar q cr ∧ v9 = .int .i64 (k : Int) ∧ k ≤ q ∧ q ≤ 64 ∧ Hid (q = (faiF m k).length) ∧ Hid (RfO w a5 #[.slice ab nb cb, .int .i64 (S0 : Int), .slice ag ng cg] #[.int .i64 vo, .int .i64 lo, .int .i64 hi, .int .i64 ci, .int .i64 br, .int .i64 re] X1 X2 X3 N ((faiF m k).map Prod.fst) ((faiF m k).map Prod.fst) ((faiF m k).map Prod.snd) (.slice av q cv) (.slice ar q cr) wr) ∧ Hid (V = FF (64 - k) k)) (fun _ _ x _ => 64 - (intOf x).toNat)
 case atStart => exact ⟨0, 1, _, _, _, _, rfl, rfl, rfl, by omega, by omega, Lib.hid (by rw [HF0.out]; rfl), Lib.hid (by rw [HF0.out]; exact HR.out), HFV1⟩
 case round =>
  clear HR HFV1
  obtain ⟨wk, rfl⟩ : ∃ x, x = wr := ⟨wr, rfl⟩
  obtain ⟨k, q, av, ar, cv, cr, rfl, rfl, rfl, hk, hq, HQ, HR, HV⟩ := hrel
  have i0 : (0 : Int) ≤ (k : Int) := by omega
  by_cases hlt : k < q
  rotate_left
  ·obtain rfl : k = q := by omega
   have hv := HV.out
   rw [HKE.out k (by rw [← HQ.out]; exact Nat.le_refl _)] at hv
   subst hv
   have HBw := HR.out.bw
   go_wp2
   go_ret2
   exact ⟨none, 0, 0, rfl, HBw, IntsR.nil _ _⟩
  have i1 : (k : Int) < (q : Int) := by omega
  obtain ⟨p, hp⟩ : ∃ p, (faiF m k)[k]? = some p := ⟨_, List.getElem?_eq_getElem (by rw [← HQ.out]; exact hlt)⟩
  obtain ⟨s, r⟩ := p
  have hsN : s < N := HRT.out k (s, r) (List.mem_of_getElem? hp)
  have hrl : r.length ≤ k := HRN.out k (s, r) (List.mem_of_getElem? hp)
  have HP := Lib.hid hp
  have HKFk := Lib.hid (HKF.out k s r hp (by omega))
  have HKNk := Lib.hid (HKN.out k s r hp (by omega))
  have HNXk := Lib.hid (HNX.out k s r hp)
  have HILk := Lib.hid (HIL.out k s r hsN)
  have hoi : IntsR wk av q (nats ((faiF m k).map Prod.fst)) := by
   have h := HR.out.op
   rw [List.length_map, ← HQ.out] at h
   exact SlR.of_owns h
  obtain ⟨bo, oo, rfl, hbo, hoa⟩ := hoi.addr (by omega)
  have hoc := hoa k (by omega)
  rw [nats_getD, List.getD_eq_getElem?_getD, List.getElem?_map, hp] at hoc
  simp only [Option.map_some, Option.getD_some] at hoc
  clear hoi hoa hp
  obtain ⟨q0, q1, q2, l1⟩ := blkc3 HR.out.k1
  go_wp2_with fail
  have HSM := Lib.hid (fun (W : World) (hbw : Below wk.heap.size wk W) => HMV.out s (Nat.lt_of_lt_of_le hsN hN64) W (HR.out.bw.trans (hbw.mono HR.out.bw.size)))
  refine wp_region_laterM (B := wk.heap.size) [(true, 0), (true, 1), (true, 2), (true, 3), (true, 4), (false, 5), (true, 6)] (by kernel_rfl) (by kernel_rfl) ?_; simp only [opsOf, List.filterMap_cons, List.filterMap_nil, List.getElem?_toArray, List.getElem?_cons_zero, List.getElem?_cons_succ, Option.map_some]
  repeat (refine mix_head ?_; (show wpQuiet _ _ _ _ (_ :: _) _; go_big_quiet_step (fail)); refine wpQuiet_nil ?_)
  refine mix_tail ?_; go_wp2_with fail
  refine (HSM.out _ (by (first|exact bwg|go_size))).mono ?_
  rintro e6 w6 ⟨am, nm, cm, rfl, hb6, hm6⟩
  have hN6 : Below wk.heap.size wk w6 := (show Below wk.heap.size wk wk.drew by (first|exact bwg|go_size)).trans (hb6.mono (by simp))
  have hmv : RunV a5 (.slice (some ⟨bo, oo, none⟩) q cv) (movL m s) (.slice am nm cm) w6 := by
   have h1 : w6.ownsRow wk.drew.heap.size 3 1 (.slice am nm cm) nm (icells (nats (movL m s))) := hm6
   have h2 : nm = (movL m s).length := by have h := IntsR.len (SlR.of_owns h1); simpa [nats] using h.symm
   subst h2
   refine ⟨am, cm, rfl, owns_mono h1 (by have := HR.out.sz; simpa using this), fun g hg hg2 => ?_⟩
   have h3 := (World.ownsRow.lt h1 g hg).1
   have h4 := (World.ownsRow.lt HR.out.op g hg2).2
   simp at h3
   omega
  have HMR := Lib.hid hmv
  have HNM := Lib.hid (show nm = (movL m s).length from by obtain ⟨_, _, h, _⟩ := hmv; injection h)
  clear hmv hm6
  go_wp2_with fail
  refine tailL_mk hN6 ?_
  repeat (refine mix_head ?_; (show wpQuiet _ _ _ _ (_ :: _) _; go_big_quiet_step (fail)); refine wpQuiet_nil ?_)
  refine mix_nil ?_
  have HR6 := Lib.hid (HR.out.below hN6)
  clear HR hb6 hN6 HSM q0 q1 q2 l1 hoc hbo
  go_wp2_with fail
  obtain ⟨MVs, hMVs⟩ : ∃ x, x = movL m s := ⟨_, rfl⟩
  obtain ⟨F0, hF0⟩ : ∃ x, x = faiF m k := ⟨_, rfl⟩
  obtain ⟨FI, hFI⟩ : ∃ f : Nat → List (Nat × List Nat), f = fun j => faiIn F0 s r (MVs.take j) := ⟨_, rfl⟩
  have HIP := Lib.hid (show ∀ j, ∃ t, FI j = F0 ++ t from fun j => by rw [hFI]; exact faiIn_pre _ _ _ _)
  have HI0 := Lib.hid (show FI 0 = F0 from by rw [hFI]; rfl)
  have HIY := Lib.hid (fun (j c : Nat) (hj : MVs[j]? = some c) (h : trn s c ∈ (FI j).map Prod.fst) => show FI (j + 1) = FI j from by
   rw [hFI] at h ⊢
   show faiIn F0 s r (MVs.take (j + 1)) = _
   rw [List.take_add_one, hj]; exact faiIn_yes h)
  have HIN := Lib.hid (fun (j c : Nat) (hj : MVs[j]? = some c) (h : trn s c ∉ (FI j).map Prod.fst) => show FI (j + 1) = FI j ++ [(trn s c, r ++ [c])] from by
   rw [hFI] at h ⊢
   show faiIn F0 s r (MVs.take (j + 1)) = _
   rw [List.take_add_one, hj]; exact faiIn_no h)
  have HIE := Lib.hid (show FI nm = faiF m (k + 1) from by
   rw [hFI, HNXk.out]
   show faiIn F0 s r (MVs.take nm) = _
   rw [List.take_of_length_le (by rw [hMVs, ← HNM.out]; exact Nat.le_refl _), hF0, hMVs])
  have HIL2 := Lib.hid (show ∀ j, (FI j).length ≤ 64 from fun j => by rw [hFI, hF0, hMVs]; exact HILk.out j)
  have HMT := Lib.hid (show ∀ c ∈ MVs, c < nb from fun c hc => by rw [hMVs] at hc; rw [← HLN.out]; exact movL_lt hc)
  have HP0 := Lib.hid (show F0[k]? = some (s, r) from by rw [hF0]; exact HP.out)
  have HQ0 := Lib.hid (show q = F0.length from by rw [hF0]; exact HQ.out)
  rw [← hMVs] at HKFk HKNk HMR HNM
  rw [← hF0] at HR6
  clear hFI HILk HNXk HP HQ hMVs hF0
  go_loopw [7, 8, 11] (fun v7 v8 v11 wr => ∃ (j p : Nat) (aw ax : Option Addr) (cw cx : Nat), v7 = .slice aw p cw ∧ v8 = .slice ax p cx ∧ v11 = .int .i64 (j : Int) ∧ j ≤ nm ∧ q ≤ p ∧ p ≤ 64 ∧ Hid (p = (FI j).length) ∧ Hid (RfO w a5 #[.slice ab nb cb, .int .i64 (S0 : Int), .slice ag ng cg] #[.int .i64 vo, .int .i64 lo, .int .i64 hi, .int .i64 ci, .int .i64 br, .int .i64 re] X1 X2 X3 N ((FI j).map Prod.fst) ((FI j).map Prod.fst) ((FI j).map Prod.snd) (.slice aw p cw) (.slice ax p cx) wr) ∧ Hid (RunV a5 (.slice aw p cw) MVs (.slice am nm cm) wr) ∧ Hid (∀ i, i < j → CE s (MVs.getD i 0) = 0)) (fun _ _ x _ => nm - (intOf x).toNat)
  case atStart => exact ⟨0, q, _, _, _, _, rfl, rfl, rfl, by omega, by omega, hq, Lib.hid (by rw [HI0.out]; exact HQ0.out), Lib.hid (by rw [HI0.out]; exact HR6.out), HMR, Lib.hid (fun i h => absurd h (by omega))⟩
  case round =>
   clear HR6 HMR
   obtain ⟨wq, rfl⟩ : ∃ x, x = wr := ⟨wr, rfl⟩
   obtain ⟨j, p, aw, ax, cw, cx, rfl, rfl, rfl, hj, hqp, hp, HPL, HR, HMR, HC0⟩ := hrel
   have j0 : (0 : Int) ≤ (j : Int) := by omega
   by_cases hjl : j < nm
   rotate_left
   ·obtain rfl : j = nm := by omega
    have HV2 := Lib.hid (HV.out.trans (HKNk.out (fun i hi => HC0.out i (by rw [HNM.out]; exact hi))))
    rw [HIE.out] at HR HPL
    go_wp2
    refine ⟨⟨k + 1, p, aw, ax, cw, cx, rfl, rfl, by go_num, by omega, hp, HPL, HR, HV2⟩, ?_⟩
    simp only [intOf]; omega
   have j1 : (j : Int) < (nm : Int) := by omega
   obtain ⟨c, hc⟩ : ∃ c, MVs[j]? = some c := ⟨_, List.getElem?_eq_getElem (by rw [← HNM.out]; exact hjl)⟩
   have hcn : c < nb := HMT.out c (List.mem_of_getElem? hc)
   have hcd : MVs.getD j 0 = c := by rw [List.getD_eq_getElem?_getD, hc]; rfl
   have hTN : trn s c < N := by rw [HNN.out]; exact trn_lt' hn6 (by rw [← HNN.out]; exact hsN) hcn
   have HT := Lib.hid (fun W => changed_any s c W (Nat.lt_of_lt_of_le hsN hN64) (by omega))
   have HY := Lib.hid (HIY.out j c hc)
   have HN := Lib.hid (HIN.out j c hc)
   have HFND := Lib.hid (fun (h : CE s c ≠ 0) => show V = some (r ++ [c]) from by
    have h2 := HKFk.out j (by rw [← HNM.out]; exact hjl) HC0.out (by rw [hcd]; exact h)
    rw [HV.out, h2, hcd])
   have HC1 := Lib.hid (fun (h : CE s c = 0) => show ∀ i, i < j + 1 → CE s (MVs.getD i 0) = 0 from fun i hi => by
    by_cases hij : i = j
    ·subst hij; rw [hcd]; exact h
    ·exact HC0.out i (by omega))
   have HCMc := Lib.hid (fun (W : World) (hbw : Below wq.heap.size wq W) => HCM.out s c hsN hcn W (HR.out.bw.trans (hbw.mono HR.out.bw.size)))
   generalize CE s c = CEc at *
   obtain ⟨tt, htt⟩ := HIP.out j
   have hFk : (FI j)[k]? = some (s, r) := by rw [htt, List.getElem?_append_left (by rw [← HQ0.out]; exact hlt)]; exact HP0.out
   have hKk : ((FI j).map Prod.fst).getD k 0 = s := by rw [List.getD_eq_getElem?_getD, List.getElem?_map, hFk]; rfl
   have hRk : ((FI j).map Prod.snd)[k]? = some r := by rw [List.getElem?_map, hFk]; rfl
   have hoi : IntsR wq aw p (nats ((FI j).map Prod.fst)) := by
    have h := HR.out.op
    rw [List.length_map, ← HPL.out] at h
    exact SlR.of_owns h
   obtain ⟨bo2, oo2, rfl, hbo, hoa⟩ := hoi.addr (by omega)
   have hoc := hoa k (by omega)
   rw [nats_getD, hKk] at hoc
   obtain ⟨vs, hv1, hv2, hv3⟩ := HR.out.rn
   obtain ⟨vk, hvk, ark, crk, hvr, hvo, hva⟩ := hv3 k r hRk
   subst hvr
   rw [List.length_map, ← HPL.out] at hv1
   have hri : SlR wq ax p 1 vs := SlR.of_owns hv1
   obtain ⟨bx, ox, rfl, hbx, hxa⟩ := hri.addr (by omega)
   have hxc := hxa k _ hvk
   obtain ⟨am', cm', hme, hmo, hma⟩ := HMR.out
   have hmn : am = am' ∧ nm = MVs.length ∧ cm = cm' := by injection hme with h1 h2 h3; exact ⟨h1, h2, h3⟩
   obtain ⟨rfl, hnm, rfl⟩ := hmn
   have hmi : IntsR wq am nm (nats MVs) := by rw [hnm]; rw [hnm] at hmo; exact SlR.of_owns hmo
   obtain ⟨bm, om, rfl, hbm, hmca⟩ := hmi.addr (by omega)
   have hmc := hmca j (by omega)
   rw [nats_getD, hcd] at hmc
   have HRI := Lib.hid (show IntsR wq ark r.length (nats r) from SlR.of_owns hvo)
   have hr63 : r.length ≤ 63 := by omega
   have HCP := Lib.hid (fun (W : World) (hbw : Below wq.heap.size wq W) => copyInts_any (nats r) ark r.length crk W (HRI.out.below hbw) (by omega))
   have HMB := Lib.hid hmi.small
   have k1 : (k : Int) < (p : Int) := by omega
   clear htt hFk hKk hRk hoi hoa hv1 hv2 hv3 hvk hvo hva hri hxa hme hmo hma hmi hmca hnm
   go_upto_region 13 with (fail)
   go_cut [12] from 51 to 62 (fun v12 wx => ∃ (a' : Option Addr) (c' : Nat), v12 = .slice a' (r.length + 1) c' ∧ Hid (wx.ownsRow wq.heap.size 3 1 (.slice a' (r.length + 1) c') (r.length + 1) (icells (nats (r ++ [c])))) ∧ Hid (Below wq.heap.size wq wx))
   case first =>
    have hsn : icells (nats r) ++ [.int .i64 (c : Int)] = icells (nats (r ++ [c])) := by unfold nats; rw [List.map_append, icells_append]; rfl
    have HSN := Lib.hid hsn
    clear hsn
    refine wp_region_laterT (B := wq.heap.size) (.head 0 (.head 1 (.head 2 (.head 3 (.head 5 (.head 6 (.head 7 (.head 8 (.two 4 (.one 9 (.one 10 (.head 11 .done))) 9 (.one 4 (.one 10 (.head 11 .done)))))))))))) (by kernel_rfl) (by kernel_rfl) ?_
    repeat (refine tree_head rfl ?_; (show wpQuiet _ _ _ _ (_ :: _) _; go_big_quiet_step (fail)); refine wpQuiet_nil ?_)
    refine tree_two rfl rfl ?_ ?_
    ·go_wp2_with fail
     refine (HCP.out _ (by (first|exact bwg|go_size))).mono ?_
     rintro e10 w10 ⟨a10, c10, rfl, hb10, hown⟩
     have hN10 : Below wq.heap.size wq w10 := (show Below wq.heap.size wq wq.drew by (first|exact bwg|go_size)).trans (hb10.mono (by simp))
     have ho10 : w10.ownsRow wq.heap.size 3 1 (.slice a10 r.length c10) r.length (icells (nats r)) := owns_mono hown (by simp)
     clear hb10 hown
     go_wp2_with fail
     refine tailL_mk hN10 ?_
     refine tree_one rfl ?_
     go_wp2_with fail
     have hba : Below w10.heap.size w10 (w10.alloc (Obj.cells #[.int .i64 (c : Int)] 3)) := by (first|exact bwg|go_size)
     have hN11 := hN10.trans (hba.mono hN10.size)
     refine tailL_mk hN11 ?_
     refine tree_one rfl ?_
     go_wp2_with (at_builtin; refine wpList_app6 _ rfl _ _ rfl wq.heap.size r.length w10.heap.size _ _ (.int .i64 (c : Int)) rfl (World.ownsRow.alloc ho10 _) rfl (blk_cell (heap_alloc_new _ _) (i := 0) rfl) rfl (by omega) (by rw [World.size_alloc]; have := hN10.size; omega) ?_)
     intro v' w12 hown12 hgr hbl hb12
     obtain ⟨av2, cv2, rfl, _, _⟩ := owns_slice hown12
     have hN12 := hN11.trans hb12
     rw [HSN.out] at hown12
     clear hgr hbl hb12 ho10 hN10 hN11 hba
     go_wp2_with fail
     refine tailL_mk hN12 ?_
     repeat (refine tree_head rfl ?_; (show wpQuiet _ _ _ _ (_ :: _) _; go_big_quiet_step (fail)); refine wpQuiet_nil ?_)
     refine tree_done ?_
     go_wp2_with fail
     go_meet
     case rel => exact ⟨av2, cv2, rfl, Lib.hid hown12, Lib.hid hN12⟩
    ·go_wp2_with fail
     have hba : Below wq.heap.size wq ((wq.alloc (Obj.cells #[.int .i64 (c : Int)] 3)).drew) := by (first|exact bwg|go_size)
     have hca : ((wq.alloc (Obj.cells #[.int .i64 (c : Int)] 3)).drew).cell? ⟨wq.heap.size, 0, none⟩ = some (.int .i64 (c : Int)) := by
      have := blk_cell (heap_alloc_new wq (Obj.cells #[.int .i64 (c : Int)] 3)) (i := 0) rfl
      simp
     have hzl : wq.heap.size < ((wq.alloc (Obj.cells #[.int .i64 (c : Int)] 3)).drew).heap.size := by simp
     generalize (wq.alloc (Obj.cells #[.int .i64 (c : Int)] 3)).drew = wa at *
     have hba2 : Below wq.heap.size wq wa := hba
     clear hba
     refine tailL_mk hba2 ?_
     refine tree_one rfl ?_
     go_wp2_with fail
     refine (HCP.out _ hba2).mono ?_
     rintro e10 w10 ⟨a10, c10, rfl, hb10, hown⟩
     have hN10 : Below wq.heap.size wq w10 := hba2.trans (hb10.mono hba2.size)
     have ho10 : w10.ownsRow wq.heap.size 3 1 (.slice a10 r.length c10) r.length (icells (nats r)) := owns_mono hown hba2.size
     have hcb : w10.cell? ⟨wq.heap.size, 0, none⟩ = some (.int .i64 (c : Int)) := (hb10.cell (by exact hzl)).trans hca
     clear hb10 hown hca hzl hba2
     go_wp2_with fail
     refine tailL_mk hN10 ?_
     refine tree_one rfl ?_
     go_wp2_with (at_builtin; refine wpList_app6 _ rfl _ _ rfl wq.heap.size r.length wq.heap.size _ _ (.int .i64 (c : Int)) rfl ho10 rfl hcb rfl (by omega) hN10.size ?_)
     intro v' w12 hown12 hgr hbl hb12
     obtain ⟨av2, cv2, rfl, _, _⟩ := owns_slice hown12
     have hN12 := hN10.trans hb12
     rw [HSN.out] at hown12
     clear hgr hbl hb12 ho10 hN10 hcb
     go_wp2_with fail
     refine tailL_mk hN12 ?_
     repeat (refine tree_head rfl ?_; (show wpQuiet _ _ _ _ (_ :: _) _; go_big_quiet_step (fail)); refine wpQuiet_nil ?_)
     refine tree_done ?_
     go_wp2_with fail
     go_meet
     case rel => exact ⟨av2, cv2, rfl, Lib.hid hown12, Lib.hid hN12⟩
   case rest =>
    obtain ⟨w13, rfl⟩ : ∃ w', w' = wc := ⟨wc, rfl⟩
    obtain ⟨ar2, cr2, rfl, HO2, HN13⟩ := hcut
    have HRV : RunV a5 (.slice (some ⟨bo2, oo2, none⟩) p cw) (r ++ [c]) (.slice ar2 (r.length + 1) cr2) w13 := by
     have h1 : w13.ownsRow wq.heap.size 3 1 (.slice ar2 (r.length + 1) cr2) (r.length + 1) (icells (nats (r ++ [c]))) := HO2.out
     refine ⟨ar2, cr2, by rw [List.length_append, List.length_singleton], by rw [List.length_append, List.length_singleton]; exact owns_mono h1 HR.out.sz, fun g hg hg2 => ?_⟩
     have h3 := (World.ownsRow.lt h1 g hg).1
     have h4 := (World.ownsRow.lt HR.out.op g hg2).2
     omega
    have HRV := Lib.hid HRV
    have HR13 := Lib.hid (HR.out.below HN13.out)
    have HM13 := Lib.hid (HMR.out.below HN13.out)
    have hoc : w13.cell? ⟨bo2, oo2 + k, none⟩ = some (.int .i64 (s : Int)) := (HN13.out.cell (by exact hbo)).trans hoc
    have hmc : w13.cell? ⟨bm, om + j, none⟩ = some (.int .i64 (c : Int)) := (HN13.out.cell (by exact hbm)).trans hmc
    have hbo : bo2 < w13.heap.size := Nat.lt_of_lt_of_le hbo HN13.out.size
    have hbm : bm < w13.heap.size := Nat.lt_of_lt_of_le hbm HN13.out.size
    have HCM13 := Lib.hid (fun (W : World) (hbw : Below w13.heap.size w13 W) => HCMc.out W (HN13.out.trans (hbw.mono HN13.out.size)))
    have HIV := Lib.hid (show IntsR w13 ar2 (r.length + 1) (nats (r ++ [c])) from SlR.of_owns HO2.out)
    obtain ⟨q0, q1, q2, l1⟩ := blkc3 HR13.out.k1
    obtain ⟨c3, c3_1, c3_2, c3_3, c3_4, c3_5, l3⟩ := blkc6 HR13.out.k3
    clear HR HMR hxc hbx HCP HCMc HO2 HN13
    go_wp2_with fail
    refine later_all (by kernel_rfl) (by kernel_rfl) ?_; repeat go_big_quiet_step(with_reducible exact calls_later (HCM13.out _ (Later.below _)))
    refine wpQuiet_nil ?_; intro w14 hb14
    have HR14 := Lib.hid (HR13.out.below hb14)
    have HM14 := Lib.hid (HM13.out.below hb14)
    have HRV14 := Lib.hid (HRV.out.below hb14)
    have HIV := Lib.hid (HIV.out.below hb14)
    have hoc : w14.cell? ⟨bo2, oo2 + k, none⟩ = some (.int .i64 (s : Int)) := (hb14.cell (by exact hbo)).trans hoc
    have hmc : w14.cell? ⟨bm, om + j, none⟩ = some (.int .i64 (c : Int)) := (hb14.cell (by exact hbm)).trans hmc
    have hbo : bo2 < w14.heap.size := Nat.lt_of_lt_of_le hbo hb14.size
    have hbm : bm < w14.heap.size := Nat.lt_of_lt_of_le hbm hb14.size
    clear hb14 HR13 HM13 HRV HCM13 q0 q1 q2 l1 c3 c3_1 c3_2 c3_3 c3_4 c3_5 l3
    by_cases hce : CEc = 0
    rotate_left
    ·have hv := HFND.out hce
     subst hv
     have e1 := bne_iff_ne.2 hce
     have HBw := Lib.hid HR14.out.bw
     clear hce HFND HC1 HY HN HR14 HM14 HRV14
     go_wp2
     go_ret2
     exact ⟨ar2, r.length + 1, cr2, rfl, HBw.out, HIV.out⟩
    subst hce
    have HC1b := Lib.hid (HC1.out rfl)
    clear HFND HC1 HIV
    go_wp2_with fail
    refine later_all (by kernel_rfl) (by kernel_rfl) ?_; repeat go_big_quiet_step(with_reducible exact calls_later_same (HT.out _))
    refine wpQuiet_nil ?_; intro w16 hb16
    have HR16 := Lib.hid (HR14.out.below hb16)
    have HM16 := Lib.hid (HM14.out.below hb16)
    have HRV16 := Lib.hid (HRV14.out.below hb16)
    clear hb16 HR14 HM14 HRV14 hoc hmc hbo hbm HT
    obtain ⟨T, hT⟩ : ∃ T, T = trn s c := ⟨_, rfl⟩
    rw [← hT] at HY HN hTN ⊢
    clear hT
    have t0 : (0 : Int) ≤ (T : Int) := by omega
    have t1 : (T : Int) < (N : Int) := by omega
    have hkt := blk_cell HR16.out.k2 (i := T) (kwN_get N _ hTN)
    have hzt := blk_fz HR16.out.k2 T
    have l2 := HR16.out.k2.lt
    by_cases hin : T ∈ (FI j).map Prod.fst
    ·rw [decide_eq_true hin] at hkt
     have hF1 := HY.out hin
     have HRn := Lib.hid HR16.out
     have HPLn := Lib.hid HPL.out
     rw [← hF1] at HRn HPLn
     clear hin hzt
     have hmb := HMB.out
     go_wp2
     refine ⟨⟨j + 1, p, _, _, _, _, rfl, rfl, by go_num, by omega, hqp, hp, HPLn, HRn, HM16, HC1b⟩, ?_⟩
     simp only [intOf]; omega
    ·rw [decide_eq_false hin] at hkt
     have hF1 := HN.out hin
     clear hin
     have h32 := HX32.out
     have hset := HR16.out.set (by omega) (by omega) hx2w T
     have hmset := HM16.out.set (i := T) (x := .bool true) HR16.out.k2 (by decide)
     have hrset := HRV16.out.set (i := T) (x := .bool true) HR16.out.k2 (by decide)
     have HSE := Lib.hid (And.intro hset (And.intro hmset hrset))
     clear hset hmset hrset
     go_upto_region 19 with (fail)
     generalize w16.setCell ⟨X2, T, none⟩ (.bool true) = w17 at *
     clear hkt hzt l2 HR16 HM16 HRV16
     obtain ⟨hs1, hs2, hs3⟩ := HSE.out
     have hba : Below w17.heap.size w17 (w17.alloc (Obj.cells #[.int .i64 (T : Int)] 3)) := by (first|exact bwg|go_size)
     have H18 := Lib.hid (And.intro (hs1.below hba) (And.intro (hs2.below hba) (hs3.below hba)))
     have hop := (hs1.below hba).op
     rw [List.length_map, ← HPL.out] at hop
     have HOP := Lib.hid hop
     have hcl := blk_cell (heap_alloc_new w17 (Obj.cells #[.int .i64 (T : Int)] 3)) (i := 0) rfl
     have HCL := Lib.hid hcl
     have hz18 : a5 ≤ (w17.alloc (Obj.cells #[.int .i64 (T : Int)] 3)).heap.size := H18.out.1.sz
     clear hs1 hs2 hs3 hba HSE hop hcl
     go_wp2_with (at_builtin; refine wpList_app6 _ rfl _ _ rfl a5 p w17.heap.size _ _ (.int .i64 (T : Int)) rfl HOP.out rfl HCL.out rfl (by omega) hz18 ?_)
     intro v' w19 hown hgr hbl hb19
     obtain ⟨av2, cv2, rfl, _, _⟩ := owns_slice hown
     have hown' : w19.ownsRow a5 3 1 (.slice av2 (p + 1) cv2) (((FI j).map Prod.fst).length + 1) (icells (nats ((FI j).map Prod.fst)) ++ [.int .i64 (T : Int)]) := by rw [List.length_map, ← HPL.out]; exact hown
     have hbl : (Value.slice av2 (p + 1) cv2).ownBlock = (Value.slice (some ⟨bo2, oo2, none⟩) p cw).ownBlock ∨ (Value.slice av2 (p + 1) cv2).ownBlock = some (w17.alloc (Obj.cells #[.int .i64 (T : Int)] 3)).heap.size := by rw [World.size_alloc]; exact hbl
     have H19 := Lib.hid (And.intro (H18.out.1.pushO hown' hgr hbl hb19 hwa) (And.intro (H18.out.2.1.pushO hgr hbl) (H18.out.2.2.pushO hgr hbl)))
     clear hown hown' hgr hbl hb19 H18 HOP HCL hz18
     obtain ⟨hs1, hs2, hs3⟩ := H19.out
     have hba : Below w19.heap.size w19 (w19.alloc (Obj.cells #[.slice ar2 (r.length + 1) cr2] 48)) := by (first|exact bwg|go_size)
     have H20 := Lib.hid (And.intro (hs1.below hba) (And.intro (hs2.below hba) (hs3.below hba)))
     obtain ⟨vs2, hv1, hv2⟩ := (hs1.below hba).rn
     have HV1 := Lib.hid hv1
     have HV2 := Lib.hid hv2
     have hv3 := hv1
     rw [List.length_map, ← HPL.out] at hv3
     have HV3 := Lib.hid hv3
     have HCL := Lib.hid (blk_cell (heap_alloc_new w19 (Obj.cells #[.slice ar2 (r.length + 1) cr2] 48)) (i := 0) rfl)
     have hz20 : a5 ≤ (w19.alloc (Obj.cells #[.slice ar2 (r.length + 1) cr2] 48)).heap.size := H20.out.1.sz
     clear hs1 hs2 hs3 hba H19 hv1 hv2 hv3
     go_wp2_with (at_builtin; refine wpList_app7 _ rfl _ _ rfl a5 p w19.heap.size _ _ (.slice ar2 (r.length + 1) cr2) rfl HV3.out rfl HCL.out rfl (by omega) hz20 ?_)
     intro v' w21 hown hgr hbl hb21
     obtain ⟨ax3, cx3, rfl, _, _⟩ := owns_slice hown
     have hown' : w21.ownsRow a5 48 1 (.slice ax3 (p + 1) cx3) (((FI j).map Prod.snd).length + 1) (vs2 ++ [.slice ar2 (r.length + 1) cr2]) := by rw [List.length_map, ← HPL.out]; exact hown
     have hR21 := H20.out.1.pushR HV1.out HV2.out H20.out.2.2 hown' hgr hb21 hwa
     have hM21 := H20.out.2.1.pushR HV1.out hgr
     have hK1 : (FI j).map Prod.fst ++ [T] = (FI (j + 1)).map Prod.fst := by rw [hF1, List.map_append]; rfl
     have hK2 : (FI j).map Prod.snd ++ [r ++ [c]] = (FI (j + 1)).map Prod.snd := by rw [hF1, List.map_append]; rfl
     rw [hK1, hK2] at hR21
     have HRn := Lib.hid hR21
     have HMn := Lib.hid hM21
     have HPLn := Lib.hid (show p + 1 = (FI (j + 1)).length from by rw [hF1, List.length_append, ← HPL.out]; rfl)
     have hp1 : p + 1 ≤ 64 := by rw [HPLn.out]; exact HIL2.out (j + 1)
     have hmb := HMB.out
     clear hown hown' hgr hbl hb21 H20 HV1 HV2 HV3 HCL hz20 hR21 hM21 hK1 hK2 hF1
     go_wp2
     refine ⟨⟨j + 1, p + 1, _, _, _, _, rfl, rfl, by go_num, by omega, by omega, hp1, HPLn, HRn, HMn, HC1b⟩, ?_⟩
     simp only [intOf]; omega
end Go.Proofs.YtdjinmieogpgcaaGreat
/- slices.Contains and base.Has at integers. -/
namespace Go.Proofs.YtdjinmieogpgcaaGreat
open Go.RowKit
set_option linter.unusedVariables false
set_option maxHeartbeats 1000000 in
set_option maxRecDepth 100000 in
theorem cntIndex_any (x : Int) (l : List Int) (a : Option Addr) (n c : Nat) (w : World) (hl : IntsR w a n l) :
    Calls Tryz.prog 81 #[.slice a n c, .int .i64 x] w fun e' w' => e' = .returned (.int .i64 (idxFrom (fun q : Int => decide (x = q)) l 0)) ∧ w = w' := by
 have HL := Lib.hid hl
 have hn := hl.small
 clear hl
 go_enter Tryz.func81, Tryz.ntmps81
 go_wp2
 go_loop [8] (fun i => ∃ k : Nat, i = .int .i64 k ∧ k ≤ n ∧ Hid (idxFrom (fun q : Int => decide (x = q)) (l.drop k) k = idxFrom (fun q : Int => decide (x = q)) l 0)) (fun i => n - (intOf i).toNat)
 case atStart => exact ⟨0, rfl, Nat.zero_le _, rfl⟩
 case round =>
  obtain ⟨k, rfl, hk, hF⟩ := hrel
  by_cases hlt : k < n
  ·obtain ⟨b, o, rfl, hb, hc⟩ := HL.out.addr (by omega)
   have hck := hc k hlt
   clear hc
   have hF' := hF.out
   rw [drop_at l k 0 (by rw [HL.out.len]; exact hlt), idxFrom] at hF'
   have HF := Lib.hid hF'; clear hF' hF
   generalize l.getD k 0 = y at *
   by_cases hx : x = y
   ·subst hx
    rw [if_pos (by simp)] at HF
    go_wp2
    go_ret
    exact ⟨ret_int HF.out, rfl⟩
   ·rw [if_neg (by simpa using hx)] at HF
    have hx' : (x == y) = false := by simpa using hx
    clear hx
    go_wp2
    go_round
    case rel => exact ⟨k + 1, by go_num, by omega, HF⟩
    case measure => simp [intOf]; omega
  ·go_wp2
   go_ret
   exact ⟨ret_int (by rw [← hF.out, drop_end l k (by rw [HL.out.len]; omega)]; rfl), rfl⟩
set_option maxRecDepth 100000 in
theorem cntContains_any (x : Int) (l : List Int) (a : Option Addr) (n c : Nat) (w : World) (hl : IntsR w a n l) :
    Calls Tryz.prog 53 #[.slice a n c, .int .i64 x] w fun e' w' => e' = .returned (.bool (l.any (fun q : Int => decide (x = q)))) ∧ w = w' := by
 have HI := Lib.hid (cntIndex_any x l a n c w hl)
 clear hl
 go_enter Tryz.func53, Tryz.ntmps53
 go_wp2_with fail
 refine HI.out.mono ?_
 rintro e w' ⟨rfl, rfl⟩
 go_wp2
 go_ret
 exact ⟨ret_bool (idx_any l 0), rfl⟩
set_option maxHeartbeats 1000000 in
set_option maxRecDepth 100000 in
theorem cntHas_any (x : Int) (l : List Int) (a : Option Addr) (n c : Nat) (w : World) (hl : IntsR w a n l) :
    Calls Tryz.prog 26 #[.slice a n c, .int .i64 x] w fun e' w' => e' = .returned (.bool (l.any (fun q : Int => decide (x = q)))) ∧ w = w' := by
 have HL := Lib.hid hl
 have hn := hl.small
 clear hl
 obtain ⟨V, hV⟩ : ∃ V, V = l.any (fun q : Int => decide (x = q)) := ⟨_, rfl⟩
 have HV := Lib.hid hV
 rw [← hV]
 clear hV
 go_enter Tryz.func26, Tryz.ntmps26
 go_wp2_with fail
 go_loopw [5] (fun i wr => ∃ k : Nat, i = .int .i64 (k : Int) ∧ k ≤ n ∧ Hid (V = (l.drop k).any (fun q : Int => decide (x = q))) ∧ wr = w) (fun i _ => n - (intOf i).toNat)
 case atStart => exact ⟨0, rfl, Nat.zero_le _, HV, rfl⟩
 case round =>
  obtain ⟨k, rfl, hk, hF, rfl⟩ := hrel
  have i0 : (0 : Int) ≤ (k : Int) := by omega
  by_cases hlt : k < n
  ·have i1 : (k : Int) < (n : Int) := by omega
   obtain ⟨b, o, rfl, hb, hc⟩ := HL.out.addr (by omega)
   have hck := hc k hlt
   clear hc
   have hF' := hF.out
   rw [drop_at l k 0 (by rw [HL.out.len]; exact hlt), List.any_cons] at hF'
   generalize l.getD k 0 = y at *
   by_cases hx : y = x
   ·subst hx
    have HF := Lib.hid (show V = true by rw [hF']; simp)
    clear hF' hF
    go_wp2
    go_ret
    exact ⟨ret_bool HF.out.symm, rfl⟩
   ·have HF := Lib.hid (show V = (l.drop (k + 1)).any (fun q : Int => decide (x = q)) by rw [hF', decide_eq_false (fun e => hx e.symm), Bool.false_or])
    have hx' : (y == x) = false := by simpa using hx
    clear hF' hF hx
    go_wp2
    go_roundw
    case rel => exact ⟨k + 1, by go_num, by omega, HF, by first | rfl | trivial⟩
    case measure => simp [intOf]; omega
  ·obtain rfl : k = n := by omega
   have HF := Lib.hid (show V = false by rw [hF.out, List.drop_eq_nil_of_le (by rw [HL.out.len]; omega)]; rfl)
   go_wp2
   go_ret
   exact ⟨ret_bool HF.out.symm, rfl⟩
end Go.Proofs.YtdjinmieogpgcaaGreat
