import Derived.Test.YtdjinmieogpgcaaGreatTSetP
/- The law TapNever: there is a failure or an invariant; an invariant is kept by every run; a failure ends in a change that alone is refused. -/
namespace Go.Proofs.YtdjinmieogpgcaaGreat
open Go.RowKit Go.Shelf
set_option linter.unusedVariables false
set_option linter.unusedSimpArgs false
structure NevL (m : Mac) (l : Lim) (FE IE : Int) (FL IL : List Nat) : Prop where
 ok : MacV m ∧ limE l = 0
 pc : (faiV m l).isSome = true → FE = 0 ∧ IE = 12 ∧ IL = []
 pn : (faiV m l).isSome = true → FL = [] → chsE m l m.st ≠ 0
 pr : (faiV m l).isSome = true → FL ≠ [] → FL.length ≤ 40 → ∃ q c, FL = q ++ [c] ∧ (rofX m l (nats FL)).1 = (q.length : Int) ∧ (rofX m l (nats FL)).2 ≠ 0 ∧ (rofX m l (nats FL)).2 ≠ 18 ∧ (rofX m l (nats FL)).2 ≠ 6 ∧ (rofX m l (nats q)).2 = 0
 pd : (faiV m l).isSome = false → FE = 12 ∧ IE = 0 ∧ IL = reaS m ∧ cinX m l (nats (reaS m)) = (0, 0) ∧ (nats (reaS m)).any (fun q : Int => decide (m.st = q)) = true
 ps : (faiV m l).isSome = false → ∀ t c, t ∈ reaS m → c < m.br.length → mayB m t c = true → chmE m l t c = 0 ∧ trn t c ∈ reaS m ∧ chsE m l (trn t c : Nat) = 0
 pt : ∀ t, t ∈ reaS m → t < 2 ^ m.br.length
 pz : (reaS m).length ≤ 64
theorem nevLaw {m : Mac} {l : Lim} (h : opnE m l = 0) : NevL m l (failE m l) (invE m l) (failL m l) (invL m l) := by
 obtain ⟨hm, hl⟩ := opnE_zero h
 have hst := hm.st
 have hpw : ((2 ^ m.br.length : Nat) : Int) = (2 : Int) ^ m.br.length := by push_cast; rfl
 have hsn : m.st = ((m.st.toNat : Nat) : Int) := by omega
 have hro : ∀ c, rofX m l c = runX m l c := fun c => by unfold rofX; rw [if_neg (by rw [h]; exact fun h => h rfl)]
 have hlt : ∀ t, t ∈ reaS m → t < 2 ^ m.br.length := fun t ht => (reaF_ok hm 64).lt t ((reaS_mem hm).1 ht)
 have hcs : ∀ t : Nat, t < 2 ^ m.br.length → chsE m l (t : Int) = safE m l t := fun t ht => by
  have hz : chsZ m l (t : Int) = 0 := by
   unfold chsZ
   rw [firstErr_cons, firstErr_cons, staE_zero]
   exact ⟨h, ⟨by omega, by omega⟩, rfl⟩
  unfold chsE
  rw [if_neg (by rw [hz]; exact fun h => h rfl), Int.toNat_natCast]
 have hnone : (faiV m l).isSome = false → faiV m l = none := fun h2 => by cases hf : faiV m l with
  | none => rfl
  | some r => rw [hf] at h2; simp at h2
 have hFL : failL m l = (faiV m l).getD [] := by unfold failL; rw [if_neg (by rw [h]; exact fun h => h rfl)]
 refine ⟨⟨hm, hl⟩, fun h2 => ?_, fun h2 h3 => ?_, fun h2 h3 h4 => ?_, fun h2 => ?_, fun h2 t c ht hc hb => ?_, hlt, ?_⟩
 ·have h1 : invE m l = 12 := by unfold invE; rw [if_neg (by rw [h]; exact fun h => h rfl), h2]; rfl
  exact ⟨by unfold failE; rw [if_neg (by rw [h]; exact fun h => h rfl), h2]; rfl, h1, by unfold invL; rw [if_pos (by rw [h1]; decide)]⟩
 ·rw [hsn, hcs _ (by omega)]
  rw [hFL] at h3
  unfold faiV at h2 h3
  split at h3
  ·assumption
  ·rename_i h0
   cases hf : faiFrom m l 64 0 with
   | none => rw [if_neg h0, hf] at h2; simp at h2
   | some r =>
    rw [hf] at h3
    obtain rfl : r = [] := h3
    obtain ⟨k, _, _, hk⟩ := faiFrom_some _ _ hf
    unfold faiK at hk
    cases hp : (faiF m k)[k]? with
    | none => rw [hp] at hk; simp at hk
    | some p =>
     rw [hp] at hk
     simp only [Option.map_eq_some_iff] at hk
     obtain ⟨c, _, hc⟩ := hk
     simp at hc
 ·rw [hFL] at h3 h4 ⊢
  cases hf : faiV m l with
  | none => rw [hf] at h2; simp at h2
  | some r =>
   rw [hf] at h3 h4
   simp only [Option.getD_some] at h3 h4 ⊢
   obtain ⟨h0, q, c, rfl, hc, hmb, hne, hq⟩ := fail_run hm.n1 hf h3
   obtain ⟨g1, g2⟩ := fail_runX h0 hc hne hq (by simpa using h4)
   have hv := chgE_vals (l := l) hmb
   refine ⟨q, c, rfl, ?_, ?_, ?_, ?_, ?_⟩
   ·rw [hro, g1]
   ·rw [hro, g1]; exact hne
   ·rw [hro, g1]; exact hv.1
   ·rw [hro, g1]; exact hv.2
   ·rw [hro]; exact g2
 ·have h1 : invE m l = 0 := by unfold invE; rw [if_neg (by rw [h]; exact fun h => h rfl), h2]; rfl
  refine ⟨by unfold failE; rw [if_neg (by rw [h]; exact fun h => h rfl), h2]; rfl, h1, by unfold invL; rw [if_neg (by rw [h1]; decide)], ?_, ?_⟩
  ·unfold cinX
   rw [if_neg (by rw [h]; exact fun h => h rfl)]
   exact inv_ok hm (hnone h2)
  ·rw [hsn, nats_any]
   exact decide_eq_true ((reaS_mem hm).2 (reaF_ok hm 64).st)
 ·have hra := (reaS_mem hm).1 ht
  have hcm : c ∈ movL m t := List.mem_filter.2 ⟨List.mem_range.2 hc, hb⟩
  obtain ⟨g1, g2⟩ := rea_closed hm (hnone h2) hra c hcm
  refine ⟨?_, (reaS_mem hm).2 g2, ?_⟩
  ·have hz : chmZ m l (t : Int) (c : Int) = 0 := by
     unfold chmZ
     rw [firstErr_cons, firstErr_cons, firstErr_cons, staE_zero, conE_zero]
     have := hlt t ht
     exact ⟨h, ⟨by omega, by omega⟩, ⟨by omega, by omega⟩, rfl⟩
   unfold chmE
   rw [if_neg (by rw [hz]; exact fun h => h rfl), Int.toNat_natCast, Int.toNat_natCast]
   exact g1
  ·rw [hcs _ (hlt _ ((reaS_mem hm).2 g2))]
   exact chgE_safe g1
 ·unfold reaS
  refine Nat.le_trans (List.length_filter_le _ _) ?_
  rw [List.length_range]
  exact Nat.le_trans (Nat.pow_le_pow_right (by omega) hm.n1) (by decide)
theorem IntsR.front {w : World} {a : Option Addr} {n k : Nat} {l t : List Int} (h : IntsR w a n (l ++ t)) (hk : k = l.length) : IntsR w a k l := by
 subst hk
 have hn : n = l.length + t.length := by have := h.len; simpa using this.symm
 refine ⟨by simp [icells], by have := h.2.1; omega, fun h0 => ?_⟩
 obtain ⟨b, o, ha, hb, hc⟩ := h.2.2 (by omega)
 refine ⟨b, o, ha, hb, fun i u hu => hc i u ?_⟩
 rw [icells_append, List.getElem?_append_left (List.getElem?_eq_some_iff.1 hu).1]
 exact hu
set_option maxHeartbeats 8000000 in
set_option maxRecDepth 100000 in
theorem nev_law (m : Mac) (l : Lim) (L : List Int) (ac ab ag : Option Addr) (n cc nb cb ng cg : Nat) (w : World) (hb : BrR w ab nb m.br) (hg : GrR w ag ng m.gs) (hc : IntsR w ac n L) :
    Calls Tryz.prog 5 #[.agg #[.slice ab nb cb, .int .i64 m.st, .slice ag ng cg], .agg #[.int .i64 l.volt, .int .i64 l.lo, .int .i64 l.hi, .int .i64 l.circ, .int .i64 l.brk, .int .i64 l.ret], .slice ac n cc] w fun e' w' => e' = .returned (.bool true) ∧ Below w.heap.size w w' := by
 have HFW := Lib.hid (fun (W : World) => few_any m.st ab ag nb cb ng cg W hb.small hg.small)
 have HCP0 := Lib.hid (fun (h1 : nb ≤ 8) (h2 : ng ≤ 32) (W : World) (hbw : Below w.heap.size w W) => copyM_any m ab ag nb cb ng cg W (hb.below hbw) (hg.below hbw) (by omega) (by omega))
 have HCI := Lib.hid (fun (Q : List Int) (a : Option Addr) (n c : Nat) (W : World) (h1 : n ≤ 100) (h2 : IntsR W a n Q) => copyInts_any Q a n c W h2 (by omega))
 have HFA := Lib.hid (fun (a1 a2 : Option Addr) (c1 c2 : Nat) (W : World) (h1 : BrR W a1 nb m.br) (h2 : GrR W a2 ng m.gs) => failureOf_any m l a1 a2 nb c1 ng c2 W h1 h2)
 have HIV := Lib.hid (fun (a1 a2 : Option Addr) (c1 c2 : Nat) (W : World) (h1 : BrR W a1 nb m.br) (h2 : GrR W a2 ng m.gs) => invariantOf_any m l a1 a2 nb c1 ng c2 W h1 h2)
 have HCK0 := Lib.hid (fun (ni : Nat) (hn : ni ≤ 100) (a1 a2 a3 : Option Addr) (c1 c2 c3 : Nat) (W : World) (h1' : BrR W a1 nb m.br) (h2 : GrR W a2 ng m.gs) (h3 : IntsR W a3 ni (nats (reaS m))) => checkInvariant_any m l (nats (reaS m)) a3 a1 a2 ni c3 nb c1 ng c2 W h1' h2 h3 hn)
 have HRO := Lib.hid (fun (Q : List Int) (nq : Nat) (a1 a2 a3 : Option Addr) (c1 c2 c3 : Nat) (W : World) (h1 : BrR W a1 nb m.br) (h2 : GrR W a2 ng m.gs) (h3 : IntsR W a3 nq Q) => runOf_any m l Q a3 a1 a2 nq c3 nb c1 ng c2 W h1 h2 h3)
 have HCS0 := Lib.hid (fun (h8 : nb ≤ 8) (s : Int) (a1 a2 : Option Addr) (c1 c2 : Nat) (W : World) (h1 : BrR W a1 nb m.br) (h2 : GrR W a2 ng m.gs) => checkState_any m l s a1 a2 nb c1 ng c2 W h1 h2 h8)
 have HCM0 := Lib.hid (fun (h8 : nb ≤ 8) (s i : Int) (a1 a2 : Option Addr) (c1 c2 : Nat) (W : World) (h1 : BrR W a1 nb m.br) (h2 : GrR W a2 ng m.gs) => checkMove_any m l s i a1 a2 nb c1 ng c2 W h1 h2 h8)
 have HBE := Lib.hid (fun (W : World) (hbw : Below w.heap.size w W) => show Calls Tryz.prog 19 #[.agg #[.slice ab nb cb, .int .i64 m.st, .slice ag ng cg], .agg #[.int .i64 l.volt, .int .i64 l.lo, .int .i64 l.hi, .int .i64 l.circ, .int .i64 l.brk, .int .i64 l.ret]] W (fun e' w' => e' = .returned (.int .i64 (opnE m l)) ∧ Below W.heap.size W w') from bothErr_any m l ab ag nb cb ng cg W (hb.below hbw) (hg.below hbw))
 have HCO := Lib.hid (fun (h8 : nb ≤ 8) (x : Int) (W : World) => rConE_any m.st nb cb ng cg ab ag x W (by omega))
 have HMY := Lib.hid (fun (hm : MacV m) (s i : Nat) (hs : s < 64) (hi : i < 8) (W : World) (hbw : Below w.heap.size w W) => rMayChange_any m s i ab ag nb cb ng cg W hm (hg.below hbw) hs hi)
 have HCH := Lib.hid (fun (s i : Nat) (W : World) (hs : s < 64) (hi : i < 6) => changed_any s i W hs hi)
 have HHAS := Lib.hid (fun (x : Int) (a : Option Addr) (n c : Nat) (W : World) (h : IntsR W a n (nats (reaS m))) => cntHas_any x (nats (reaS m)) a n c W h)
 have HIN0 := Lib.hid (fun (W : World) (hbw : Below w.heap.size w W) => hc.below hbw)
 have HL := Lib.hid (fun (h : opnE m l = 0) => nevLaw h)
 have hcs := hc.small
 have hlen := hb.len
 generalize opnE m l = E at *
 generalize failE m l = FE at *
 generalize invE m l = IE at *
 generalize failL m l = FL at *
 generalize invL m l = IL at *
 obtain ⟨st, hst⟩ : ∃ x, x = m.st := ⟨_, rfl⟩
 rw [← hst] at HFW HCP0 HFA HIV HCK0 HRO HCS0 HCM0 HBE HCO HMY ⊢
 have HST := Lib.hid hst
 have HLEN := Lib.hid hlen
 clear hb hg hc hst hlen
 obtain ⟨vo, lo, hi', ci, br, re⟩ := l
 simp only at HFA HIV HCK0 HRO HCS0 HCM0 HBE ⊢
 generalize hLM : (⟨vo, lo, hi', ci, br, re⟩ : Lim) = LM at *
 clear hLM
 go_enter Tryz.func5, Tryz.ntmps5
 go_upto_region 1 with (fail)
 obtain ⟨w1, hW⟩ : ∃ w1, w1 = (w.alloc (Obj.cells #[.slice ab nb cb, .int .i64 st, .slice ag ng cg] 45)).alloc (Obj.cells #[.int .i64 vo, .int .i64 lo, .int .i64 hi', .int .i64 ci, .int .i64 br, .int .i64 re] 47) := ⟨_, rfl⟩
 obtain ⟨hb1, k3, k4⟩ := alA2 w (Obj.cells #[.slice ab nb cb, .int .i64 st, .slice ag ng cg] 45) (Obj.cells #[.int .i64 vo, .int .i64 lo, .int .i64 hi', .int .i64 ci, .int .i64 br, .int .i64 re] 47)
 rw [← hW]
 rw [← hW] at hb1 k3 k4
 obtain ⟨X3, hX3⟩ : ∃ X, X = w.heap.size := ⟨_, rfl⟩
 obtain ⟨X4, hX4⟩ : ∃ X, X = w.heap.size + 1 := ⟨_, rfl⟩
 rw [← hX4] at k4
 have k3 : BlkR w1 X3 (.cells #[.slice ab nb cb, .int .i64 st, .slice ag ng cg] 45) := by rw [hX3]; exact k3
 simp only [← hX4]
 simp only [← hX3]
 clear hW hX3 hX4
 go_wp2_with fail
 refine (awake_any w1).mono ?_
 rintro e2 w2 ⟨rfl, hb2⟩
 have K3 := Lib.hid (k3.below hb2)
 have K4 := Lib.hid (k4.below hb2)
 have HB := Lib.hid (hb1.trans (hb2.mono hb1.size))
 clear hb1 hb2 k3 k4
 obtain ⟨q0, q1, q2, _⟩ := blkc3 K3.out
 obtain ⟨u0, u1, u2, u3, u4, u5, _⟩ := blkc6 K4.out
 have l3 := K3.out.lt
 have l4 := K4.out.lt
 go_wp2_with fail
 refine (HFW.out _).mono ?_
 rintro e3 w3 ⟨rfl, hb3⟩
 clear q0 q1 q2 u0 u1 u2 u3 u4 u5 l3 l4
 have K3 := Lib.hid (K3.out.below hb3)
 have K4 := Lib.hid (K4.out.below hb3)
 have HB := bwt HB hb3
 obtain ⟨q0, q1, q2, _⟩ := blkc3 K3.out
 obtain ⟨u0, u1, u2, u3, u4, u5, _⟩ := blkc6 K4.out
 have l3 := K3.out.lt
 have l4 := K4.out.lt
 clear hb3 HFW
 by_cases hfew : nb ≤ 8 ∧ ng ≤ 32
 rotate_left
 ·have e81 : (decide (nb ≤ 8) && decide (ng ≤ 32)) = false := by
    rw [Bool.eq_false_iff]
    intro h
    rw [Bool.and_eq_true, decide_eq_true_eq, decide_eq_true_eq] at h
    exact hfew h
  rw [e81]
  clear e81 hfew
  go_wp2
  go_ret
  exact ⟨rfl, HB.out⟩
 obtain ⟨h8, h32⟩ := hfew
 have HCP := Lib.hid (HCP0.out h8 h32)
 have e81 : (decide (nb ≤ 8) && decide (ng ≤ 32)) = true := by rw [decide_eq_true h8, decide_eq_true h32]; rfl
 rw [e81]
 have HCS := Lib.hid (HCS0.out h8)
 have HCM := Lib.hid (HCM0.out h8)
 have HCO1 := Lib.hid (HCO.out h8)
 clear e81 HCP0 h8 h32 HCS0 HCM0 HCO
 go_wp2_with fail
 refine (HBE.out _ HB.out).mono ?_
 rintro e4 w4 ⟨rfl, hb4⟩
 clear q0 q1 q2 u0 u1 u2 u3 u4 u5 l3 l4
 have K3 := Lib.hid (K3.out.below hb4)
 have K4 := Lib.hid (K4.out.below hb4)
 have HB := bwt HB hb4
 obtain ⟨q0, q1, q2, _⟩ := blkc3 K3.out
 obtain ⟨u0, u1, u2, u3, u4, u5, _⟩ := blkc6 K4.out
 have l3 := K3.out.lt
 have l4 := K4.out.lt
 clear hb4 HBE
 by_cases h1 : E = 0
 rotate_left
 ·have e1 := bne_iff_ne.2 h1
  go_wp2
  go_ret
  exact ⟨rfl, HB.out⟩
 subst h1
 by_cases h40 : (n : Int) ≤ 40
 rotate_left
 ·have i40 : 40 < (n : Int) := by omega
  go_wp2
  go_ret
  exact ⟨rfl, HB.out⟩
 have i40 : ¬ 40 < (n : Int) := by omega
 have HL1 := Lib.hid (HL.out rfl)
 clear HL
 go_upto_region 5 with (fail)
 go_cut [7, 8] from 37 to 44 (fun v7 v8 wx => ∃ (aa : Option Addr) (na ca : Nat), v7 = .slice aa na ca ∧ v8 = .int .i64 FE ∧ Hid (IntsR wx aa na (nats FL)) ∧ Hid (na ≤ ca) ∧ Hid (Below w4.heap.size w4 wx))
 case first =>
  have HN := Lib.hid (Below.refl w4.heap.size w4).drew
  refine wp_region_laterT (B := w4.heap.size) (.head 0 (.head 2 (.one 1 (.one 3 (.head 4 (.head 5 (.head 6 (.head 7 (.head 8 .done))))))))) (by kernel_rfl) (by kernel_rfl) ?_
  repeat (refine tree_head rfl ?_; (show wpQuiet _ _ _ _ (_ :: _) _; go_big_quiet_step (fail)); refine wpQuiet_nil ?_)
  refine tree_one rfl ?_
  go_wp2_with fail
  refine (HCP.out _ (HB.out.trans (HN.out.mono HB.out.size))).mono ?_
  rintro e1 wx1 ⟨a1, p1', a2, p2', rfl, hbx, hbr1, hgr1⟩
  have HBR := Lib.hid hbr1
  have HGR := Lib.hid hgr1
  clear hbr1 hgr1
  have hzx := hbx.size
  have HN := bwt HN hbx
  clear hbx
  go_wp2_with fail
  refine tailL_mk HN.out ?_
  refine tree_one rfl ?_
  go_wp2_with fail
  refine (HFA.out a1 a2 p1' p2' _ HBR.out HGR.out).mono ?_
  rintro e1 wx2 ⟨aa, na, ca, rfl, hbx, hall, hcp⟩
  have HFI := Lib.hid hall
  have HCA := Lib.hid hcp
  clear hall hcp
  have hzx := hbx.size
  have HN := bwt HN hbx
  have HBR := Lib.hid (HBR.out.below hbx)
  have HGR := Lib.hid (HGR.out.below hbx)
  clear hbx
  go_wp2_with fail
  refine tailL_mk HN.out ?_
  repeat (refine tree_head rfl ?_; (show wpQuiet _ _ _ _ (_ :: _) _; go_big_quiet_step (fail)); refine wpQuiet_nil ?_)
  refine tree_done ?_
  go_wp2_with fail
  go_meet
  case rel => exact ⟨aa, na, ca, rfl, rfl, HFI, HCA, HN⟩
 case rest =>
  obtain ⟨w5, rfl⟩ : ∃ w', w' = wc := ⟨wc, rfl⟩
  obtain ⟨aa, na, ca, rfl, rfl, HFI, HCA, HQ⟩ := hcut
  have hbq := HQ.out
  clear q0 q1 q2 u0 u1 u2 u3 u4 u5 l3 l4
  have K3 := Lib.hid (K3.out.below hbq)
  have K4 := Lib.hid (K4.out.below hbq)
  have HB := bwt HB hbq
  obtain ⟨q0, q1, q2, _⟩ := blkc3 K3.out
  obtain ⟨u0, u1, u2, u3, u4, u5, _⟩ := blkc6 K4.out
  have l3 := K3.out.lt
  have l4 := K4.out.lt
  clear HQ HFA hbq
  go_upto_region 6 with (fail)
  go_cut [9, 10] from 44 to 51 (fun v7 v8 wx => ∃ (aa : Option Addr) (na ca : Nat), v7 = .slice aa na ca ∧ v8 = .int .i64 IE ∧ Hid (IntsR wx aa na (nats IL)) ∧ Hid (Below w5.heap.size w5 wx))
  case first =>
   have HN := Lib.hid (Below.refl w5.heap.size w5).drew
   refine wp_region_laterT (B := w5.heap.size) (.head 0 (.head 2 (.one 1 (.one 3 (.head 4 (.head 5 (.head 6 (.head 7 (.head 8 .done))))))))) (by kernel_rfl) (by kernel_rfl) ?_
   repeat (refine tree_head rfl ?_; (show wpQuiet _ _ _ _ (_ :: _) _; go_big_quiet_step (fail)); refine wpQuiet_nil ?_)
   refine tree_one rfl ?_
   go_wp2_with fail
   refine (HCP.out _ (HB.out.trans (HN.out.mono HB.out.size))).mono ?_
   rintro e1 wx1 ⟨a1, p1', a2, p2', rfl, hbx, hbr1, hgr1⟩
   have HBR := Lib.hid hbr1
   have HGR := Lib.hid hgr1
   clear hbr1 hgr1
   have hzx := hbx.size
   have HN := bwt HN hbx
   clear hbx
   go_wp2_with fail
   refine tailL_mk HN.out ?_
   refine tree_one rfl ?_
   go_wp2_with fail
   refine (HIV.out a1 a2 p1' p2' _ HBR.out HGR.out).mono ?_
   rintro e1 wx2 ⟨ai, ni, ci', rfl, hbx, hall⟩
   have HII := Lib.hid hall
   clear hall
   have hzx := hbx.size
   have HN := bwt HN hbx
   have HBR := Lib.hid (HBR.out.below hbx)
   have HGR := Lib.hid (HGR.out.below hbx)
   clear hbx
   go_wp2_with fail
   refine tailL_mk HN.out ?_
   repeat (refine tree_head rfl ?_; (show wpQuiet _ _ _ _ (_ :: _) _; go_big_quiet_step (fail)); refine wpQuiet_nil ?_)
   refine tree_done ?_
   go_wp2_with fail
   go_meet
   case rel => exact ⟨ai, ni, ci', rfl, rfl, HII, HN⟩
  case rest =>
   obtain ⟨w6, rfl⟩ : ∃ w', w' = wc := ⟨wc, rfl⟩
   obtain ⟨ai, ni, ci', rfl, rfl, HII, HQ⟩ := hcut
   have hbq := HQ.out
   clear q0 q1 q2 u0 u1 u2 u3 u4 u5 l3 l4
   have K3 := Lib.hid (K3.out.below hbq)
   have K4 := Lib.hid (K4.out.below hbq)
   have HB := bwt HB hbq
   obtain ⟨q0, q1, q2, _⟩ := blkc3 K3.out
   obtain ⟨u0, u1, u2, u3, u4, u5, _⟩ := blkc6 K4.out
   have l3 := K3.out.lt
   have l4 := K4.out.lt
   have HFI := Lib.hid (IntsR.below HFI.out hbq)
   clear hbq
   clear HQ HIV
   obtain ⟨⟨hm, hl⟩, hpc, hpn, hpr, hpd, hps, hpt, hpz⟩ := HL1.out
   rw [← HST.out] at hpn hpd
   clear HL1
   generalize hFV : faiV m LM = FV at *
   clear hFV
   have HPT := Lib.hid hpt
   have HPZ := Lib.hid hpz
   have HPN := Lib.hid hpn
   have HPR := Lib.hid hpr
   have HPS := Lib.hid hps
   have HM := Lib.hid hm
   clear hpt hpz hpn hpr hps hm hl
   cases hsm : FV.isSome
   rotate_left
   ·obtain ⟨rfl, rfl, rfl⟩ := hpc hsm
    obtain rfl : ni = 0 := by have h := HII.out.1; simp [icells, nats] at h; omega
    have HPN1 := Lib.hid (HPN.out hsm)
    have HPR1 := Lib.hid (HPR.out hsm)
    clear hpc hpd HPS HPN HPR hsm HPT HPZ HCK0 HMY HCH HHAS HIN0 HCO1 HCM
    by_cases hna : (na : Int) ≤ 40
    rotate_left
    ·have i4 : 40 < (na : Int) := by omega
     go_wp2
     go_ret
     exact ⟨by first | rfl | exact ret_bool (by simp), HB.out⟩
    have i4 : ¬ 40 < (na : Int) := by omega
    have hnl : na = FL.length := by have h := HFI.out.len; rw [nats_len] at h; exact h.symm
    by_cases hz : FL = []
    ·have HNE := Lib.hid (bne_iff_ne.2 (HPN1.out hz))
     have n0 : na = 0 := by rw [hnl, hz]; rfl
     subst n0
     clear hnl hz HPN1 HPR1 i4 hna
     go_upto_region 13 with (fail)
     go_cut [6] from 88 to 95 (fun v6 wx => v6 = .bool true ∧ Hid (Below w6.heap.size w6 wx))
     case first =>
      have HN := Lib.hid (Below.refl w6.heap.size w6).drew
      refine wp_region_laterT (B := w6.heap.size) (.head 0 (.head 2 (.head 3 (.head 4 (.one 1 (.one 5 (.head 6 (.head 7 .done)))))))) (by kernel_rfl) (by kernel_rfl) ?_
      repeat (refine tree_head rfl ?_; (show wpQuiet _ _ _ _ (_ :: _) _; go_big_quiet_step (fail)); refine wpQuiet_nil ?_)
      refine tree_one rfl ?_
      go_wp2_with fail
      refine (HCP.out _ (HB.out.trans (HN.out.mono HB.out.size))).mono ?_
      rintro e1 wx1 ⟨a1, p1', a2, p2', rfl, hbx, hbr1, hgr1⟩
      have HBR := Lib.hid hbr1
      have HGR := Lib.hid hgr1
      clear hbr1 hgr1
      have hzx := hbx.size
      have HN := bwt HN hbx
      clear hbx
      go_wp2_with fail
      refine tailL_mk HN.out ?_
      refine tree_one rfl ?_
      go_wp2_with fail
      refine (HCS.out _ a1 a2 p1' p2' _ HBR.out HGR.out).mono ?_
      rintro e1 wx2 ⟨rfl, hbx⟩
      have hzx := hbx.size
      have HN := bwt HN hbx
      have HBR := Lib.hid (HBR.out.below hbx)
      have HGR := Lib.hid (HGR.out.below hbx)
      clear hbx
      go_wp2_with fail
      refine tailL_mk HN.out ?_
      repeat (refine tree_head rfl ?_; (show wpQuiet _ _ _ _ (_ :: _) _; go_big_quiet_step (fail)); refine wpQuiet_nil ?_)
      refine tree_done ?_
      go_wp2_with fail
      go_meet
      case rel => exact ⟨by rw [HNE.out], HN⟩
     case rest =>
      obtain ⟨w7, rfl⟩ : ∃ w', w' = wc := ⟨wc, rfl⟩
      obtain ⟨rfl, HQ⟩ := hcut
      go_wp2
      go_ret
      exact ⟨ret_bool rfl, HB.out.trans (HQ.out.mono HB.out.size)⟩
    ·obtain ⟨q, c, hq, hx1, hx2, hx3, hx4, hx5⟩ := HPR1.out hz (by omega)
     have HX2 := Lib.hid hx2
     have HX3 := Lib.hid (And.intro hx3 hx4)
     have HQZ := Lib.hid hx5
     have HX1 := Lib.hid hx1
     have hnq : na = q.length + 1 := by rw [hnl, hq, List.length_append]; rfl
     have HFQ0 := Lib.hid (show IntsR w6 aa q.length (nats q) from by
      have h := HFI.out
      rw [hq, show nats (q ++ [c]) = nats q ++ nats [c] from by unfold nats; rw [List.map_append]] at h
      exact IntsR.front h (nats_len q).symm)
     have i0 : ((na : Int) == 0) = false := by rw [beq_eq_false_iff_ne]; omega
     have HNQ := Lib.hid hnq
     obtain ⟨nq, hnqq⟩ : ∃ k, k = q.length := ⟨_, rfl⟩
     have HQL := Lib.hid hnqq
     have HFQ := Lib.hid (show IntsR w6 aa nq (nats q) from by rw [hnqq]; exact HFQ0.out)
     clear hx1 hx2 hx3 hx4 hx5 hz hq HPN1 HPR1 HCS hnq hnl hnqq HFQ0
     go_upto_region 14 with (fail)
     go_cut [11, 12, 13] from 95 to 105 (fun v11 v12 v13 wx => ∃ (a' : Option Addr) (n' c' : Nat), v11 = .slice a' n' c' ∧ v12 = .int .i64 (rofX m LM (nats FL)).1 ∧ v13 = .int .i64 (rofX m LM (nats FL)).2 ∧ Hid (Below w6.heap.size w6 wx))
     case first =>
      have HN := Lib.hid (Below.refl w6.heap.size w6).drew
      refine wp_region_laterT (B := w6.heap.size) (.head 0 (.head 2 (.head 3 (.one 1 (.one 4 (.one 5 (.head 6 (.head 7 (.head 8 (.head 9 (.head 10 (.head 11 (.head 12 .done))))))))))))) (by kernel_rfl) (by kernel_rfl) ?_
      repeat (refine tree_head rfl ?_; (show wpQuiet _ _ _ _ (_ :: _) _; go_big_quiet_step (fail)); refine wpQuiet_nil ?_)
      refine tree_one rfl ?_
      go_wp2_with fail
      refine (HCP.out _ (HB.out.trans (HN.out.mono HB.out.size))).mono ?_
      rintro e1 wx1 ⟨a1, p1', a2, p2', rfl, hbx, hbr1, hgr1⟩
      have HBR := Lib.hid hbr1
      have HGR := Lib.hid hgr1
      clear hbr1 hgr1
      have hzx := hbx.size
      have HN := bwt HN hbx
      clear hbx
      go_wp2_with fail
      refine tailL_mk HN.out ?_
      refine tree_one rfl ?_
      go_wp2_with fail
      refine (HCI.out (nats FL) aa na ca _ (by omega) (HFI.out.below HN.out)).mono ?_
      rintro e1 wx2 ⟨a3, c3, rfl, hbx, hin⟩
      have HIN := Lib.hid (show IntsR wx2 a3 na (nats FL) from SlR.of_owns hin)
      clear hin
      have hzx := hbx.size
      have HN := bwt HN hbx
      have HBR := Lib.hid (HBR.out.below hbx)
      have HGR := Lib.hid (HGR.out.below hbx)
      clear hbx
      go_wp2_with fail
      refine tailL_mk HN.out ?_
      refine tree_one rfl ?_
      go_wp2_with fail
      refine (HRO.out (nats FL) na a1 a2 a3 p1' p2' c3 _ HBR.out HGR.out HIN.out).mono ?_
      rintro e1 wx3 ⟨sa, ns, cs, rfl, hbx, hst⟩
      clear hst
      have hzx := hbx.size
      have HN := bwt HN hbx
      have HBR := Lib.hid (HBR.out.below hbx)
      have HGR := Lib.hid (HGR.out.below hbx)
      have HIN := Lib.hid (HIN.out.below hbx)
      clear hbx
      go_wp2_with fail
      refine tailL_mk HN.out ?_
      repeat (refine tree_head rfl ?_; (show wpQuiet _ _ _ _ (_ :: _) _; go_big_quiet_step (fail)); refine wpQuiet_nil ?_)
      refine tree_done ?_
      go_wp2_with fail
      go_meet
      case rel => exact ⟨sa, ns, cs, rfl, rfl, rfl, HN⟩
     case rest =>
      obtain ⟨w7, rfl⟩ : ∃ w', w' = wc := ⟨wc, rfl⟩
      obtain ⟨sa, ns, cs, rfl, rfl, rfl, HQ⟩ := hcut
      have hbq := HQ.out
      have HFQ := Lib.hid (HFQ.out.below hbq)
      clear q0 q1 q2 u0 u1 u2 u3 u4 u5 l3 l4
      have K3 := Lib.hid (K3.out.below hbq)
      have K4 := Lib.hid (K4.out.below hbq)
      have HB := bwt HB hbq
      obtain ⟨q0, q1, q2, _⟩ := blkc3 K3.out
      obtain ⟨u0, u1, u2, u3, u4, u5, _⟩ := blkc6 K4.out
      have l3 := K3.out.lt
      have l4 := K4.out.lt
      have HFI := Lib.hid (IntsR.below HFI.out hbq)
      clear hbq
      clear HQ
      generalize (rofX m LM (nats FL)).1 = RX1 at *
      generalize (rofX m LM (nats FL)).2 = RX2 at *
      have ws : IntKind.i64.wrap ((na : Int) - 1) = (nq : Int) := by have h1 := HNQ.out; have h2 := HQL.out; rw [IntKind.wrap_i64]; omega
      have s0 : (0 : Int) ≤ (nq : Int) := by omega
      have s1 : (nq : Int) ≤ (ca : Int) := by have h1 := HNQ.out; have h2 := HQL.out; have h3 := HCA.out; omega
      have s2 : nq ≤ ca := by omega
      go_upto_region 15 with (fail)
      go_cut [14, 15, 16] from 105 to 119 (fun v14 v15 v16 wx => ∃ (a' : Option Addr) (n' c' : Nat) (x : Int), v14 = .slice a' n' c' ∧ v15 = .int .i64 x ∧ v16 = .int .i64 0 ∧ Hid (Below w7.heap.size w7 wx))
      case first =>
       have HN := Lib.hid (Below.refl w7.heap.size w7).drew
       refine wp_region_laterT (B := w7.heap.size) (.head 0 (.head 2 (.head 3 (.head 4 (.head 5 (.head 6 (.two 1 (.one 7 (.one 8 (.one 9 (.head 10 (.head 11 (.head 12 (.head 13 (.head 14 (.head 15 (.head 16 .done)))))))))) 7 (.one 1 (.one 8 (.one 9 (.head 10 (.head 11 (.head 12 (.head 13 (.head 14 (.head 15 (.head 16 .done))))))))))))))))) (by kernel_rfl) (by kernel_rfl) ?_
       repeat (refine tree_head rfl ?_; (show wpQuiet _ _ _ _ (_ :: _) _; go_big_quiet_step (fail)); refine wpQuiet_nil ?_)
       refine tree_two rfl rfl ?_ ?_
       ·go_wp2_with fail
        refine (HCP.out _ (HB.out.trans (HN.out.mono HB.out.size))).mono ?_
        rintro e1 wx1 ⟨a1, p1', a2, p2', rfl, hbx, hbr1, hgr1⟩
        have HBR := Lib.hid hbr1
        have HGR := Lib.hid hgr1
        clear hbr1 hgr1
        have hzx := hbx.size
        have HN := bwt HN hbx
        clear hbx
        go_wp2_with fail
        refine tailL_mk HN.out ?_
        refine tree_one rfl ?_
        go_wp2_with fail
        refine tailL_mk HN.out ?_
        refine tree_one rfl ?_
        go_wp2_with fail
        refine (HCI.out (nats q) aa nq ca _ (by have := HNQ.out; have := HQL.out; omega) (HFQ.out.below HN.out)).mono ?_
        rintro e1 wx3 ⟨a3, c3, rfl, hbx, hin⟩
        have HIN := Lib.hid (show IntsR wx3 a3 nq (nats q) from SlR.of_owns hin)
        clear hin
        have hzx := hbx.size
        have HN := bwt HN hbx
        have HBR := Lib.hid (HBR.out.below hbx)
        have HGR := Lib.hid (HGR.out.below hbx)
        clear hbx
        go_wp2_with fail
        refine tailL_mk HN.out ?_
        refine tree_one rfl ?_
        go_wp2_with fail
        refine (HRO.out (nats q) nq a1 a2 a3 p1' p2' c3 _ HBR.out HGR.out HIN.out).mono ?_
        rintro e1 wx4 ⟨sa, ns, cs, rfl, hbx, hst⟩
        clear hst
        have hzx := hbx.size
        have HN := bwt HN hbx
        have HBR := Lib.hid (HBR.out.below hbx)
        have HGR := Lib.hid (HGR.out.below hbx)
        have HIN := Lib.hid (HIN.out.below hbx)
        clear hbx
        go_wp2_with fail
        refine tailL_mk HN.out ?_
        repeat (refine tree_head rfl ?_; (show wpQuiet _ _ _ _ (_ :: _) _; go_big_quiet_step (fail)); refine wpQuiet_nil ?_)
        refine tree_done ?_
        go_wp2_with fail
        go_meet
        case rel => exact ⟨sa, ns, cs, _, rfl, rfl, by rw [HQZ.out], HN⟩
       ·go_wp2_with fail
        refine tailL_mk HN.out ?_
        refine tree_one rfl ?_
        go_wp2_with fail
        refine (HCP.out _ (HB.out.trans (HN.out.mono HB.out.size))).mono ?_
        rintro e1 wx6 ⟨a1, p1', a2, p2', rfl, hbx, hbr1, hgr1⟩
        have HBR := Lib.hid hbr1
        have HGR := Lib.hid hgr1
        clear hbr1 hgr1
        have hzx := hbx.size
        have HN := bwt HN hbx
        clear hbx
        go_wp2_with fail
        refine tailL_mk HN.out ?_
        refine tree_one rfl ?_
        go_wp2_with fail
        refine (HCI.out (nats q) aa nq ca _ (by have := HNQ.out; have := HQL.out; omega) (HFQ.out.below HN.out)).mono ?_
        rintro e1 wx7 ⟨a3, c3, rfl, hbx, hin⟩
        have HIN := Lib.hid (show IntsR wx7 a3 nq (nats q) from SlR.of_owns hin)
        clear hin
        have hzx := hbx.size
        have HN := bwt HN hbx
        have HBR := Lib.hid (HBR.out.below hbx)
        have HGR := Lib.hid (HGR.out.below hbx)
        clear hbx
        go_wp2_with fail
        refine tailL_mk HN.out ?_
        refine tree_one rfl ?_
        go_wp2_with fail
        refine (HRO.out (nats q) nq a1 a2 a3 p1' p2' c3 _ HBR.out HGR.out HIN.out).mono ?_
        rintro e1 wx8 ⟨sa, ns, cs, rfl, hbx, hst⟩
        clear hst
        have hzx := hbx.size
        have HN := bwt HN hbx
        have HBR := Lib.hid (HBR.out.below hbx)
        have HGR := Lib.hid (HGR.out.below hbx)
        have HIN := Lib.hid (HIN.out.below hbx)
        clear hbx
        go_wp2_with fail
        refine tailL_mk HN.out ?_
        repeat (refine tree_head rfl ?_; (show wpQuiet _ _ _ _ (_ :: _) _; go_big_quiet_step (fail)); refine wpQuiet_nil ?_)
        refine tree_done ?_
        go_wp2_with fail
        go_meet
        case rel => exact ⟨sa, ns, cs, _, rfl, rfl, by rw [HQZ.out], HN⟩
      case rest =>
       obtain ⟨w8, rfl⟩ : ∃ w', w' = wc := ⟨wc, rfl⟩
       obtain ⟨sa2, ns2, cs2, x2, rfl, rfl, rfl, HQ⟩ := hcut
       have HB := bwt HB HQ.out
       have y1 := bne_iff_ne.2 HX2.out
       have y2 := bne_iff_ne.2 HX3.out.1
       have y3 := bne_iff_ne.2 HX3.out.2
       have y4 : RX1 = (nq : Int) := by rw [HX1.out, HQL.out]
       subst y4
       go_wp2
       go_ret
       exact ⟨ret_bool (by simp), HB.out⟩
   ·obtain ⟨rfl, rfl, rfl, hcx, hany⟩ := hpd hsm
    have HPS1 := Lib.hid (HPS.out hsm)
    have hnl : ni = (reaS m).length := by have h := HII.out.len; rw [nats_len] at h; exact h.symm
    have hni : ni ≤ 64 := by rw [hnl]; exact HPZ.out
    have HCK := Lib.hid (HCK0.out ni (by omega))
    have HCX := Lib.hid hcx
    have HAN := Lib.hid hany
    clear hpc hpd HPS HPN HPR hsm HPZ HCK0 hcx hany hnl HRO HFI HCA
    go_upto_region 17 with (fail)
    go_cut [17, 18] from 140 to 149 (fun v17 v18 wx => v17 = .int .i64 0 ∧ v18 = .int .i64 0 ∧ Hid (Below w6.heap.size w6 wx))
    case first =>
     have HN := Lib.hid (Below.refl w6.heap.size w6).drew
     refine wp_region_laterT (B := w6.heap.size) (.head 0 (.head 2 (.head 3 (.one 1 (.one 4 (.one 5 (.head 6 (.head 7 (.head 8 (.head 9 (.head 10 .done))))))))))) (by kernel_rfl) (by kernel_rfl) ?_
     repeat (refine tree_head rfl ?_; (show wpQuiet _ _ _ _ (_ :: _) _; go_big_quiet_step (fail)); refine wpQuiet_nil ?_)
     refine tree_one rfl ?_
     go_wp2_with fail
     refine (HCP.out _ (HB.out.trans (HN.out.mono HB.out.size))).mono ?_
     rintro e1 wx1 ⟨a1, p1', a2, p2', rfl, hbx, hbr1, hgr1⟩
     have HBR := Lib.hid hbr1
     have HGR := Lib.hid hgr1
     clear hbr1 hgr1
     have hzx := hbx.size
     have HN := bwt HN hbx
     clear hbx
     go_wp2_with fail
     refine tailL_mk HN.out ?_
     refine tree_one rfl ?_
     go_wp2_with fail
     refine (HCI.out (nats (reaS m)) ai ni ci' _ (by omega) (HII.out.below HN.out)).mono ?_
     rintro e1 wx2 ⟨a3, c3, rfl, hbx, hin⟩
     have HIN := Lib.hid (show IntsR wx2 a3 ni (nats (reaS m)) from SlR.of_owns hin)
     clear hin
     have hzx := hbx.size
     have HN := bwt HN hbx
     have HBR := Lib.hid (HBR.out.below hbx)
     have HGR := Lib.hid (HGR.out.below hbx)
     clear hbx
     go_wp2_with fail
     refine tailL_mk HN.out ?_
     refine tree_one rfl ?_
     go_wp2_with fail
     refine (HCK.out a1 a2 a3 p1' p2' c3 _ HBR.out HGR.out HIN.out).mono ?_
     rintro e1 wx3 ⟨rfl, hbx⟩
     have hzx := hbx.size
     have HN := bwt HN hbx
     have HBR := Lib.hid (HBR.out.below hbx)
     have HGR := Lib.hid (HGR.out.below hbx)
     have HIN := Lib.hid (HIN.out.below hbx)
     clear hbx
     go_wp2_with fail
     refine tailL_mk HN.out ?_
     repeat (refine tree_head rfl ?_; (show wpQuiet _ _ _ _ (_ :: _) _; go_big_quiet_step (fail)); refine wpQuiet_nil ?_)
     refine tree_done ?_
     go_wp2_with fail
     go_meet
     case rel => exact ⟨by rw [HCX.out], by rw [HCX.out], HN⟩
    case rest =>
     obtain ⟨w7, rfl⟩ : ∃ w', w' = wc := ⟨wc, rfl⟩
     obtain ⟨rfl, rfl, HQ⟩ := hcut
     have hbq := HQ.out
     clear q0 q1 q2 u0 u1 u2 u3 u4 u5 l3 l4
     have K3 := Lib.hid (K3.out.below hbq)
     have K4 := Lib.hid (K4.out.below hbq)
     have HB := bwt HB hbq
     obtain ⟨q0, q1, q2, _⟩ := blkc3 K3.out
     obtain ⟨u0, u1, u2, u3, u4, u5, _⟩ := blkc6 K4.out
     have l3 := K3.out.lt
     have l4 := K4.out.lt
     have HII := Lib.hid (IntsR.below HII.out hbq)
     clear HQ HCK hbq
     have HHW := Lib.hid (HHAS.out st ai ni ci' w7 HII.out)
     rw [HAN.out] at HHW
     go_wp2_with fail
     refine HHW.out.mono ?_
     rintro e8 w8 ⟨rfl, rfl⟩
     obtain ⟨S0, hS0, hS1⟩ : ∃ S0 : Nat, st = (S0 : Int) ∧ S0 ∈ reaS m := by
      have h1 := HM.out.st.1
      rw [← HST.out] at h1
      have h2 := HAN.out
      have h3 : st = ((st.toNat : Nat) : Int) := by omega
      rw [h3, nats_any] at h2
      exact ⟨st.toNat, h3, of_decide_eq_true h2⟩
     have HS0 := Lib.hid hS0
     clear HHW hS0
     go_upto_region 22 with (fail)
     clear q0 q1 q2 u0 u1 u2 u3 u4 u5 l3 l4
     go_loopw [19, 20] (fun v19 v20 wr => ∃ k t : Nat, v19 = .int .i64 (t : Int) ∧ v20 = .int .i64 (k : Int) ∧ k ≤ n ∧ Hid (t ∈ reaS m) ∧ Hid (BlkR wr X3 (.cells #[.slice ab nb cb, .int .i64 st, .slice ag ng cg] 45)) ∧ Hid (BlkR wr X4 (.cells #[.int .i64 vo, .int .i64 lo, .int .i64 hi', .int .i64 ci, .int .i64 br, .int .i64 re] 47)) ∧ Hid (IntsR wr ai ni (nats (reaS m))) ∧ Hid (Below w.heap.size w wr)) (fun _ x _ => n - (intOf x).toNat)
     case atStart => exact ⟨0, S0, by rw [HS0.out], rfl, Nat.zero_le _, Lib.hid hS1, K3, K4, HII, HB⟩
     case round =>
      clear K3 K4 HII HB hS1
      obtain ⟨wq, rfl⟩ : ∃ x, x = wr := ⟨wr, rfl⟩
      obtain ⟨k, t, rfl, rfl, hk, HTR, K3, K4, HII, HB⟩ := hrel
      have i0 : (0 : Int) ≤ (k : Int) := by omega
      by_cases hlt : k < n
      rotate_left
      ·obtain rfl : k = n := by omega
       go_wp2
       go_ret
       exact ⟨rfl, HB.out⟩
      have i1 : (k : Int) < (n : Int) := by omega
      have ht := HPT.out t HTR.out
      rw [HLEN.out] at ht
      have hn6 : nb ≤ 6 := by rw [← HLEN.out]; exact HM.out.n1
      have ht64 : t < 64 := Nat.lt_of_lt_of_le ht (Nat.le_trans (Nat.pow_le_pow_right (by omega) hn6) (by decide))
      obtain ⟨b, o, rfl, hbl, hca⟩ := (HIN0.out _ (Below.refl _ _)).addr (by omega)
      obtain ⟨x, hx⟩ : ∃ x, x = L.getD k 0 := ⟨_, rfl⟩
      have HCK := Lib.hid (fun (W : World) (hbw : Below w.heap.size w W) => show W.cell? ⟨b, o + k, none⟩ = some (.int .i64 x) from by
       rw [hbw.cell (by exact hbl), hx]; exact hca k hlt)
      have HBL := Lib.hid hbl
      clear hca hbl hx
      have ck := HCK.out wq HB.out
      have lb : b < wq.heap.size := by have := HBL.out; have := HB.out.size; omega
      obtain ⟨q0, q1, q2, _⟩ := blkc3 K3.out
      obtain ⟨u0, u1, u2, u3, u4, u5, _⟩ := blkc6 K4.out
      have l3 := K3.out.lt
      have l4 := K4.out.lt
      have hco := HCO1.out x
      by_cases hcx : conE nb x = 0
      rotate_left
      ·have e1 := bne_iff_ne.2 hcx
       have HCO2 := Lib.hid hco
       clear hco hcx
       go_upto_region 24 with (fail)
       refine wp_region_laterM (B := wq.heap.size) [(true, 0), (true, 1), (true, 2), (true, 3), (true, 4), (false, 5), (true, 6), (true, 7), (true, 8), (true, 9), (true, 10), (true, 11), (true, 12), (true, 13), (false, 14), (true, 15), (true, 16)] (by kernel_rfl) (by kernel_rfl) ?_; simp only [opsOf, List.filterMap_cons, List.filterMap_nil, List.getElem?_toArray, List.getElem?_cons_zero, List.getElem?_cons_succ, Option.map_some]
       repeat (refine mix_head ?_; (show wpQuiet _ _ _ _ (_ :: _) _; go_big_quiet_step (fail)); refine wpQuiet_nil ?_)
       refine mix_tail ?_; go_wp2_with fail
       refine (HCO2.out _).mono ?_
       rintro e9 w9 ⟨rfl, hb9⟩
       have hN : Below wq.heap.size wq w9 := (show Below wq.heap.size wq wq.drew by (first|exact bwg|go_size)).trans (hb9.mono (by simp))
       have HBN := bwt HB hN
       go_wp2_with fail
       refine tailL_mk hN ?_
       repeat (refine mix_head ?_; (show wpQuiet _ _ _ _ (_ :: _) _; go_big_quiet_step (fail)); refine wpQuiet_nil ?_)
       refine mix_tail ?_
       go_wp2_with fail
       refine tailL_mk hN ?_
       repeat (refine mix_head ?_; (show wpQuiet _ _ _ _ (_ :: _) _; go_big_quiet_step (fail)); refine wpQuiet_nil ?_)
       refine mix_nil ?_
       go_wp2
       go_ret
       exact ⟨rfl, HBN.out⟩
      ·obtain ⟨c, rfl, hcn⟩ : ∃ c : Nat, x = (c : Int) ∧ c < nb := by
         have := conE_zero.1 hcx
         exact ⟨x.toNat, by omega, by omega⟩
       rw [hcx] at hco
       have HCO2 := Lib.hid hco
       have HMYc := Lib.hid (fun (W : World) (hbw : Below wq.heap.size wq W) => HMY.out HM.out t c ht64 (by omega) W (HB.out.trans (hbw.mono HB.out.size)))
       have HPSt := Lib.hid (fun (h : mayB m t c = true) => HPS1.out t c HTR.out (by rw [HLEN.out]; exact hcn) h)
       have HCHc := Lib.hid (fun (W : World) => HCH.out t c W ht64 (by omega))
       have HMB := Lib.hid (show mayB m t c = mayB m t c from rfl)
       generalize hMBe : mayB m t c = MB at *
       clear hco hcx hMBe HMB
       go_upto_region 24 with (fail)
       refine wp_region_laterM (B := wq.heap.size) [(true, 0), (true, 1), (true, 2), (true, 3), (true, 4), (false, 5), (true, 6), (true, 7), (true, 8), (true, 9), (true, 10), (true, 11), (true, 12), (true, 13), (false, 14), (true, 15), (true, 16)] (by kernel_rfl) (by kernel_rfl) ?_; simp only [opsOf, List.filterMap_cons, List.filterMap_nil, List.getElem?_toArray, List.getElem?_cons_zero, List.getElem?_cons_succ, Option.map_some]
       repeat (refine mix_head ?_; (show wpQuiet _ _ _ _ (_ :: _) _; go_big_quiet_step (fail)); refine wpQuiet_nil ?_)
       refine mix_tail ?_; go_wp2_with fail
       refine (HCO2.out _).mono ?_
       rintro e9 w9 ⟨rfl, hb9⟩
       have hN : Below wq.heap.size wq w9 := (show Below wq.heap.size wq wq.drew by (first|exact bwg|go_size)).trans (hb9.mono (by simp))
       go_wp2_with fail
       refine tailL_mk hN ?_
       repeat (refine mix_head ?_; (show wpQuiet _ _ _ _ (_ :: _) _; go_big_quiet_step (fail)); refine wpQuiet_nil ?_)
       refine mix_tail ?_; go_wp2_with fail
       refine (HMYc.out _ hN).mono ?_
       rintro e10 w10 ⟨rfl, hb10⟩
       have hN2 : Below wq.heap.size wq w10 := hN.trans (hb10.mono hN.size)
       have HB10 := bwt HB hN2
       have K310 := Lib.hid (K3.out.below hN2)
       have K410 := Lib.hid (K4.out.below hN2)
       have HI10 := Lib.hid (HII.out.below hN2)
       go_wp2_with fail
       refine tailL_mk hN2 ?_
       repeat (refine mix_head ?_; (show wpQuiet _ _ _ _ (_ :: _) _; go_big_quiet_step (fail)); refine wpQuiet_nil ?_)
       refine mix_nil ?_
       clear q0 q1 q2 u0 u1 u2 u3 u4 u5 l3 l4
       clear hb9 hN hb10 hN2 K3 K4 HII HMYc HCO2 ck lb
       cases MB
       ·go_wp2
        go_ret
        exact ⟨rfl, HB10.out⟩
       obtain ⟨hz1, hz2, hz3⟩ := HPSt.out rfl
       have K3 := K310
       have K4 := K410
       have HII := HI10
       have HB := HB10
       have ck := HCK.out w10 HB.out
       have lb : b < w10.heap.size := by have := HBL.out; have := HB.out.size; omega
       obtain ⟨q0, q1, q2, _⟩ := blkc3 K3.out
       obtain ⟨u0, u1, u2, u3, u4, u5, _⟩ := blkc6 K4.out
       have l3 := K3.out.lt
       have l4 := K4.out.lt
       have HZ := Lib.hid hz1
       have HZ3 := Lib.hid hz3
       have HZ2 := Lib.hid hz2
       clear hz1 hz2 hz3 K310 K410 HI10 HB10 HPSt
       go_upto_region 26 with (fail)
       go_cut [196] from 187 to 197 (fun v196 wx => v196 = .bool false ∧ Hid (Below w10.heap.size w10 wx))
       case first =>
        have HN := Lib.hid (Below.refl w10.heap.size w10).drew
        refine wp_region_laterT (B := w10.heap.size) (.head 0 (.head 2 (.head 3 (.head 4 (.head 5 (.head 6 (.head 7 (.one 1 (.one 8 (.head 9 .done)))))))))) (by kernel_rfl) (by kernel_rfl) ?_
        repeat (refine tree_head rfl ?_; (show wpQuiet _ _ _ _ (_ :: _) _; go_big_quiet_step (fail)); refine wpQuiet_nil ?_)
        refine tree_one rfl ?_
        go_wp2_with fail
        refine (HCP.out _ (HB.out.trans (HN.out.mono HB.out.size))).mono ?_
        rintro e1 wx1 ⟨a1, p1', a2, p2', rfl, hbx, hbr1, hgr1⟩
        have HBR := Lib.hid hbr1
        have HGR := Lib.hid hgr1
        clear hbr1 hgr1
        have hzx := hbx.size
        have HN := bwt HN hbx
        clear hbx
        go_wp2_with fail
        refine tailL_mk HN.out ?_
        refine tree_one rfl ?_
        go_wp2_with fail
        refine (HCM.out _ _ a1 a2 p1' p2' _ HBR.out HGR.out).mono ?_
        rintro e1 wx2 ⟨rfl, hbx⟩
        have hzx := hbx.size
        have HN := bwt HN hbx
        have HBR := Lib.hid (HBR.out.below hbx)
        have HGR := Lib.hid (HGR.out.below hbx)
        clear hbx
        go_wp2_with fail
        refine tailL_mk HN.out ?_
        repeat (refine tree_head rfl ?_; (show wpQuiet _ _ _ _ (_ :: _) _; go_big_quiet_step (fail)); refine wpQuiet_nil ?_)
        refine tree_done ?_
        go_wp2_with fail
        go_meet
        case rel => exact ⟨by first | rfl | simp [HZ.out], HN⟩
       case rest =>
        obtain ⟨w11, rfl⟩ : ∃ w', w' = wc := ⟨wc, rfl⟩
        obtain ⟨rfl, HQ⟩ := hcut
        have hbq := HQ.out
        clear ck lb
        clear q0 q1 q2 u0 u1 u2 u3 u4 u5 l3 l4
        have K3 := Lib.hid (K3.out.below hbq)
        have K4 := Lib.hid (K4.out.below hbq)
        have HB := bwt HB hbq
        obtain ⟨q0, q1, q2, _⟩ := blkc3 K3.out
        obtain ⟨u0, u1, u2, u3, u4, u5, _⟩ := blkc6 K4.out
        have l3 := K3.out.lt
        have l4 := K4.out.lt
        have HII := Lib.hid (IntsR.below HII.out hbq)
        clear HQ hbq
        have ck := HCK.out w11 HB.out
        have lb : b < w11.heap.size := by have := HBL.out; have := HB.out.size; omega
        go_wp2_with fail
        refine (HCHc.out _).mono ?_
        rintro e12 w12 ⟨rfl, rfl⟩
        have HHI := Lib.hid (fun (W : World) (hb : Below w11.heap.size w11 W) => HHAS.out ((trn t c : Nat) : Int) ai ni ci' W (HII.out.below hb))
        have hha : (nats (reaS m)).any (fun q : Int => decide (((trn t c : Nat) : Int) = q)) = true := by rw [nats_any]; exact decide_eq_true HZ2.out
        rw [hha] at HHI
        have HZ := HZ3
        generalize trn t c = T at *
        clear hha ck lb HCHc HZ3
        go_upto_region 29 with (fail)
        go_cut [214] from 203 to 215 (fun v214 wx => v214 = .bool false ∧ Hid (Below w11.heap.size w11 wx))
        case first =>
         have HN := Lib.hid (Below.refl w11.heap.size w11).drew
         refine wp_region_laterT (B := w11.heap.size) (.head 0 (.head 1 (.one 2 (.head 3 (.head 4 (.head 5 (.head 7 (.head 8 (.one 6 (.one 9 (.head 10 (.head 11 .done)))))))))))) (by kernel_rfl) (by kernel_rfl) ?_
         repeat (refine tree_head rfl ?_; (show wpQuiet _ _ _ _ (_ :: _) _; go_big_quiet_step (fail)); refine wpQuiet_nil ?_)
         refine tree_one rfl ?_
         go_wp2_with fail
         refine (HHI.out _ HN.out).mono ?_
         rintro e1 w11.drew ⟨rfl, rfl⟩
         go_wp2_with fail
         refine tailL_mk HN.out ?_
         repeat (refine tree_head rfl ?_; (show wpQuiet _ _ _ _ (_ :: _) _; go_big_quiet_step (fail)); refine wpQuiet_nil ?_)
         refine tree_one rfl ?_
         go_wp2_with fail
         refine (HCP.out _ (HB.out.trans (HN.out.mono HB.out.size))).mono ?_
         rintro e1 wx2 ⟨a1, p1', a2, p2', rfl, hbx, hbr1, hgr1⟩
         have HBR := Lib.hid hbr1
         have HGR := Lib.hid hgr1
         clear hbr1 hgr1
         have hzx := hbx.size
         have HN := bwt HN hbx
         clear hbx
         go_wp2_with fail
         refine tailL_mk HN.out ?_
         refine tree_one rfl ?_
         go_wp2_with fail
         refine (HCS.out _ a1 a2 p1' p2' _ HBR.out HGR.out).mono ?_
         rintro e1 wx3 ⟨rfl, hbx⟩
         have hzx := hbx.size
         have HN := bwt HN hbx
         have HBR := Lib.hid (HBR.out.below hbx)
         have HGR := Lib.hid (HGR.out.below hbx)
         clear hbx
         go_wp2_with fail
         refine tailL_mk HN.out ?_
         repeat (refine tree_head rfl ?_; (show wpQuiet _ _ _ _ (_ :: _) _; go_big_quiet_step (fail)); refine wpQuiet_nil ?_)
         refine tree_done ?_
         go_wp2_with fail
         go_meet
         case rel => exact ⟨by first | rfl | simp [HZ.out], HN⟩
        case rest =>
         obtain ⟨w12, rfl⟩ : ∃ w', w' = wc := ⟨wc, rfl⟩
         obtain ⟨rfl, HQ⟩ := hcut
         have K3 := Lib.hid (K3.out.below HQ.out)
         have K4 := Lib.hid (K4.out.below HQ.out)
         have HII := Lib.hid (HII.out.below HQ.out)
         have HB := bwt HB HQ.out
         clear HQ
         clear q0 q1 q2 u0 u1 u2 u3 u4 u5 l3 l4
         go_wp2
         refine ⟨⟨k + 1, T, rfl, by go_num, by omega, HZ2, K3, K4, HII, HB⟩, ?_⟩
         simp only [intOf]; omega
end Go.Proofs.YtdjinmieogpgcaaGreat
