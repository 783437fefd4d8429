import Derived.Test.YtdjinmieogpgcaaGreatMTReg1
/- After how many ticks a regulator rests: the program's generic function at moments. -/
namespace Go.Proofs.YtdjinmieogpgcaaGreat
open Go.RowKit Go.Shelf
set_option linter.unusedVariables false
set_option linter.unusedSimpArgs false
theorem zeroInt (w : World) : (zeroValue 3).run Tryz.prog w = .ok (.int .i64 0) w := by kernel_rfl
theorem MomV.ok {r : Reg} {m : Mom} (hr : RegV r) (h : MomV r m) : okM m := by
 obtain ⟨⟨h1, h2⟩, h3, h4⟩ := h
 have := hr.l0
 have := hr.h1
 have := hr.d1
 exact ⟨by omega, by omega⟩
set_option maxHeartbeats 1000000 in
set_option maxRecDepth 100000 in
theorem nextM_any (r : Reg) (m : Mom) (d : Int) (XR XD : Nat) (w : World) (hr : RegV r) (hm : MomV r m) (hd : -10000 ≤ d ∧ d ≤ 10000)
    (h1 : BlkR w XR (.cells #[.int .i64 r.tgt, .int .i64 r.band, .int .i64 r.dly, .int .i64 r.stp, .int .i64 r.lo, .int .i64 r.hi] 25)) (h2 : BlkR w XD (.cells #[.int .i64 d] 3)) :
    Calls Tryz.prog 103 #[.agg #[.int .i64 m.tap, .int .i64 m.wait], .pointer (some ⟨XR, 0, none⟩), .pointer (some ⟨XD, 0, none⟩)] w fun e' w' => e' = .returned (.agg #[.int .i64 (tick r d m).tap, .int .i64 (tick r d m).wait]) ∧ Below w.heap.size w w' := by
 have HA := Lib.hid (fun (W : World) => ticked_any r m d W hr hm hd)
 obtain ⟨R, hR⟩ : ∃ R, R = tick r d m := ⟨_, rfl⟩
 rw [← hR] at HA ⊢
 obtain ⟨tgt, band, dly, stp, lo, hi⟩ := r
 obtain ⟨tap, wait⟩ := m
 obtain ⟨R1, R2⟩ := R
 simp only at HA h1 ⊢
 obtain ⟨c0, c1, c2, c3, c4, c5, _⟩ := blkc6 h1
 have d0 := blk_cell h2 (i := 0) rfl
 have l1 := h1.lt
 have l2 := h2.lt
 clear hr hm hR hd h1 h2
 go_enter Tryz.func103, Tryz.ntmps103
 go_wp2_with fail
 refine (HA.out _).mono ?_
 rintro e5 w5 ⟨rfl, hb5⟩
 have k6 : w5.heap[w.heap.size + 1]? = some (.cells #[.int .i64 0, .int .i64 0] 27) := by
  rw [hb5.block _ (by simp)]
  have := heap_alloc_new (w.alloc (Obj.cells #[.int .i64 tap, .int .i64 wait] 27)) (Obj.cells #[.int .i64 0, .int .i64 0] 27)
  simpa using this
 have HB5 := Lib.hid (show Below w.heap.size w w5 by (first|exact bwg|go_size))
 obtain ⟨X6, hX6⟩ : ∃ X, X = w.heap.size + 1 := ⟨_, rfl⟩
 rw [← hX6] at k6 ⊢
 have hx6 : w.heap.size ≤ X6 := by omega
 obtain ⟨y0, y1, _⟩ := blkc2 k6
 have f0 := blk_fz k6 0
 have f1 := blk_fz k6 1
 have l6 := blk_lt k6
 have HK6 := Lib.hid k6
 clear hb5 k6 hX6
 go_wp2
 have kw := blk_set (blk_set HK6.out 0 (.int .i64 R1)) 1 (.int .i64 R2)
 obtain ⟨s0, s1, _⟩ := blkc2 kw
 refine bodyPost_ret (v := .agg #[.int .i64 R1, .int .i64 R2]) (by simp [results, Tryz.results103, go_sem, s0, s1]) rfl ⟨rfl, (HB5.out.setCell hx6 _).setCell hx6 _⟩
theorem movesM_any (a b : Mom) (w : World) : Calls Tryz.prog 105 #[.agg #[.int .i64 a.tap, .int .i64 a.wait], .agg #[.int .i64 b.tap, .int .i64 b.wait]] w fun e' w' => e' = .returned (.bool (a.tap != b.tap)) ∧ Below w.heap.size w w' := by
 obtain ⟨a1, a2⟩ := a
 obtain ⟨b1, b2⟩ := b
 simp only
 go_enter Tryz.func105, Tryz.ntmps105
 go_wp2
 go_ret
 exact ⟨rfl, by (first|exact bwg|go_size)⟩
def TickM (f : Mom → Mom) (m : Mom) (BM k : Nat) (w : World) : Prop :=
 ∃ g, MapG Tryz.prog 27 momL okM w BM k g ∧ (∀ i, i < k → g (itr f m i) = some (.int .i64 (i : Int))) ∧ ∀ x, okM x → (∀ i, i < k → itr f m i ≠ x) → g x = none
set_option maxHeartbeats 4000000 in
set_option maxRecDepth 100000 in
theorem restM_any (r : Reg) (m : Mom) (d : Int) (XR XD : Nat) (w : World) (hr : RegV r) (hm : MomV r m) (hd : -10000 ≤ d ∧ d ≤ 10000)
    (h1 : BlkR w XR (.cells #[.int .i64 r.tgt, .int .i64 r.band, .int .i64 r.dly, .int .i64 r.stp, .int .i64 r.lo, .int .i64 r.hi] 25)) (h2 : BlkR w XD (.cells #[.int .i64 d] 3)) :
    Calls Tryz.prog 106 #[.agg #[.int .i64 m.tap, .int .i64 m.wait], .func (.func 103) #[] #[.pointer (some ⟨XR, 0, none⟩), .pointer (some ⟨XD, 0, none⟩)], .func (.func 105) #[] #[]] w
     fun e' w' => Below w.heap.size w w' ∧ ∃ T fr, Rep (tick r d) m T fr ∧ e' = .returned (.tuple #[.int .i64 ((lastM (tick r d) (mvT r d) m T : Nat) : Int), .agg #[.int .i64 (itr (tick r d) m T).tap, .int .i64 (itr (tick r d) m T).wait], .bool (decide (lastM (tick r d) (mvT r d) m T ≤ fr))]) := by
 have HV := Lib.hid (fun (k : Nat) => itr_inv (f := tick r d) (p := MomV r) (tick_valid hr d) hm k)
 have HOK := Lib.hid (fun (k : Nat) => MomV.ok hr (HV.out k))
 have HNX := Lib.hid (fun (k : Nat) (W : World) (hb : Below w.heap.size w W) => nextM_any r (itr (tick r d) m k) d XR XD W hr (HV.out k) hd ((hb.block XR h1.lt).trans h1) ((hb.block XD h2.lt).trans h2))
 have HMV := Lib.hid (fun (k : Nat) (W : World) => movesM_any (itr (tick r d) m k) (itr (tick r d) m (k + 1)) W)
 have HBD := Lib.hid (fun (T : Nat) (h : ∀ i j, i < j → j < T → itr (tick r d) m i ≠ itr (tick r d) m j) => tick_bound hr hm h)
 have HLE := Lib.hid (fun (k : Nat) => lastM_le (tick r d) (mvT r d) m k)
 have hq0 : itr (tick r d) m 0 = m := rfl
 have HNX := Lib.hid (fun (k : Nat) (W : World) (hb : Below w.heap.size w W) => show Calls Tryz.prog 103 #[.agg #[.int .i64 (itr (tick r d) m k).tap, .int .i64 (itr (tick r d) m k).wait], .pointer (some ⟨XR, 0, none⟩), .pointer (some ⟨XD, 0, none⟩)] W (fun e' w' => e' = .returned (.agg #[.int .i64 (itr (tick r d) m (k + 1)).tap, .int .i64 (itr (tick r d) m (k + 1)).wait]) ∧ Below W.heap.size W w') from HNX.out k W hb)
 have HLS := Lib.hid (fun (k : Nat) => show lastM (tick r d) (mvT r d) m (k + 1) = if ((itr (tick r d) m k).tap != (itr (tick r d) m (k + 1)).tap) = true then k + 1 else lastM (tick r d) (mvT r d) m k from by
  rw [show ((itr (tick r d) m k).tap != (itr (tick r d) m (k + 1)).tap) = mvT r d (itr (tick r d) m k) from by unfold mvT; rw [Bool.eq_iff_iff]; simp [itr]]
  rfl)
 generalize hST : itr (tick r d) m = ST at *
 generalize hLA : lastM (tick r d) (mvT r d) m = LA at *
 have HREP := Lib.hid (fun (T fr : Nat) (a : fr < T) (b : ST fr = ST T) (c : ∀ i j, i < j → j < T → ST i ≠ ST j) => show Rep (tick r d) m T fr from ⟨a, by rw [hST]; exact b, by rw [hST]; exact c⟩)
 have HST := Lib.hid hST
 have HLA0 : LA 0 = 0 := by rw [← hLA]; rfl
 clear hST hLA h1 h2
 have hmm := @run_makeMap Tryz.prog
 have hm0 : m = ST 0 := hq0.symm
 have HTK := Lib.hid (show ∀ (BM k : Nat) (W : World), TickM (tick r d) m BM k W ↔ ∃ g, MapG Tryz.prog 27 momL okM W BM k g ∧ (∀ i, i < k → g (ST i) = some (.int .i64 (i : Int))) ∧ ∀ x, okM x → (∀ i, i < k → ST i ≠ x) → g x = none from fun BM k W => by unfold TickM; rw [HST.out])
 obtain ⟨mt, mw⟩ := m
 simp only at hm0 ⊢
 have HM0 := Lib.hid hm0
 clear hm0 hq0 hr hm hd
 go_enter Tryz.func106, Tryz.ntmps106
 go_wp2_with fail
 obtain ⟨w3, hW3⟩ : ∃ w3, w3 = ((w.alloc (Obj.cells #[.int .i64 mt, .int .i64 mw] 27)).alloc (Obj.cells #[.int .i64 0, .int .i64 0] 27)).alloc (Obj.map #[] 0) := ⟨_, rfl⟩
 rw [← hW3]
 obtain ⟨X3, hX3⟩ : ∃ X, X = w.heap.size := ⟨_, rfl⟩
 obtain ⟨X7, hX7⟩ : ∃ X, X = w.heap.size + 1 := ⟨_, rfl⟩
 obtain ⟨BM, hBM⟩ : ∃ X, X = w.heap.size + 1 + 1 := ⟨_, rfl⟩
 simp only [← hBM]
 simp only [← hX7]
 simp only [← hX3]
 have hb3 : Below w.heap.size w w3 := by rw [hW3]; (first|exact bwg|go_size)
 have k3 : BlkR w3 X3 (.cells #[.int .i64 mt, .int .i64 mw] 27) := by
  show w3.heap[X3]? = _
  rw [hW3, hX3, Below.heap_alloc _ _ _ (by simp; omega), Below.heap_alloc _ _ _ (by simp)]
  exact heap_alloc_new _ _
 have k7 : BlkR w3 X7 (.cells #[.int .i64 0, .int .i64 0] 27) := by
  show w3.heap[X7]? = _
  rw [hW3, hX7, Below.heap_alloc _ _ _ (by simp)]
  have := heap_alloc_new (w.alloc (Obj.cells #[.int .i64 mt, .int .i64 mw] 27)) (Obj.cells #[.int .i64 0, .int .i64 0] 27)
  simpa using this
 have hmk : TickM (tick r d) ⟨mt, mw⟩ BM 0 w3 := by
  rw [HTK.out]
  refine ⟨fun _ => none, ?_, fun i hi => absurd hi (Nat.not_lt_zero _), fun _ _ _ => rfl⟩
  have := MapG.made (P := Tryz.prog) (K := 27) (kl := momL) (ok := okM) ((w.alloc (Obj.cells #[.int .i64 mt, .int .i64 mw] 27)).alloc (Obj.cells #[.int .i64 0, .int .i64 0] 27))
  rw [← hW3] at this
  simpa [hBM] using this
 have k3' : BlkR w3 X3 (.cells #[.int .i64 (ST 0).tap, .int .i64 (ST 0).wait] 27) := by rw [← HM0.out]; exact k3
 have hwX : w.heap.size ≤ X3 := by omega
 have hwX7 : w.heap.size ≤ X7 := by omega
 have hwB : w.heap.size ≤ BM := by omega
 have n37 : X3 ≠ X7 := by omega
 clear hW3 hX3 hX7 hBM k3 hmm
 go_loopw [10, 11] (fun a b wr => ∃ k : Nat, a = .int .i64 ((LA k : Nat) : Int) ∧ b = .int .i64 (k : Int) ∧ Hid (∀ i j, i < j → j < k → ST i ≠ ST j) ∧ Hid (BlkR wr X3 (.cells #[.int .i64 (ST k).tap, .int .i64 (ST k).wait] 27)) ∧ Hid (BlkR wr X7 (.cells #[.int .i64 0, .int .i64 0] 27)) ∧ Hid (TickM (tick r d) ⟨mt, mw⟩ BM k wr) ∧ Hid (Below w.heap.size w wr)) (fun _ b _ => 3300 - (intOf b).toNat)
 case atStart => exact ⟨0, by rw [HLA0]; rfl, rfl, Lib.hid (fun i j _ h => absurd h (Nat.not_lt_zero _)), Lib.hid k3', Lib.hid k7, Lib.hid hmk, Lib.hid hb3⟩
 case round =>
  clear k3' k7 hmk hb3
  obtain ⟨k, rfl, rfl, HDI, K3, K7, HTM, HB⟩ := hrel
  obtain ⟨g, hg1, hg2, hg3⟩ := (HTK.out BM k wr).1 HTM.out
  have hk32 : k ≤ 3240 := HBD.out k HDI.out
  have hlk := hg1.look_ok momKeys Tryz.underlying185 (zeroInt wr) (HOK.out k)
  unfold momV at hlk
  obtain ⟨c3, c3_1, l3⟩ := blkc2 K3.out
  have hLk : LA k ≤ k := HLE.out k
  by_cases hex : ∃ i, i < k ∧ ST i = ST k
  ·obtain ⟨fr, hfr, hfe⟩ := hex
   have hgk := hg2 fr hfr
   rw [hfe] at hgk
   rw [hgk] at hlk
   have HRX := Lib.hid (HREP.out k fr hfr hfe HDI.out)
   obtain ⟨c7, c7_1, _⟩ := blkc2 K7.out
   have f7 := blk_fz K7.out 0
   have f7_1 := blk_fz K7.out 1
   have l7 := K7.out.lt
   have HK7 := Lib.hid K7.out
   clear hg1 hg2 hg3 hgk hfr hfe
   obtain ⟨S, hS⟩ : ∃ S, S = ST k := ⟨_, rfl⟩
   rw [← hS] at hlk c3 c3_1
   have HSk := Lib.hid hS
   clear hS
   obtain ⟨s1, s2⟩ := S
   simp only [Option.getD_some, Option.isSome_some] at hlk c3 c3_1
   have ok3 : OkB X3 wr.heap.size X7 := ⟨l3, n37⟩
   go_wp2_with fail
   refine wp_region_laterC (B := wr.heap.size) (b0 :=  X7) [(true, 0), (true, 1), (true, 2), (true, 3), (true, 4), (true, 5), (false, 6), (true, 7)] (by kernel_rfl) (by kernel_rfl) ?_; simp only [opsOf, List.filterMap_cons, List.filterMap_nil, List.getElem?_toArray, List.getElem?_cons_zero, List.getElem?_cons_succ, Option.map_some]
   repeat (refine mixc_head ?_; (show wpQuiet _ _ _ _ (_ :: _) _; go_big_quiet_step (fail)); refine wpQuiet_nil ?_)
   refine mixc_tail ?_; go_wp2_with fail
   have y0 : SameX wr.heap.size X7 wr wr.drew := SameX.of_below (show Below wr.heap.size wr wr.drew by (first|exact bwg|go_size))
   have y1 := SameX.set (o := 0) y0 (.int .i64 s1)
   have y2 := SameX.set (o := 1) y1 (.int .i64 s2)
   have HY := Lib.hid y2
   clear y0 y1 y2
   refine tailC_stay HY.out ?_
   repeat (refine mixc_head ?_; (show wpQuiet _ _ _ _ (_ :: _) _; go_big_quiet_step (fail)); refine wpQuiet_nil ?_)
   refine mixc_nil ?_
   go_wp2
   have kw : BlkR ((wr.setCell ⟨X7, 0, none⟩ (.int .i64 s1)).setCell ⟨X7, 1, none⟩ (.int .i64 s2)).drew X7 (.cells #[.int .i64 s1, .int .i64 s2] 27) := show ((wr.setCell ⟨X7, 0, none⟩ (.int .i64 s1)).setCell ⟨X7, 1, none⟩ (.int .i64 s2)).heap[X7]? = _ from blk_set (blk_set HK7.out 0 _) 1 _
   obtain ⟨r0, r1, _⟩ := blkc2 kw
   refine bodyPost_ret (v := .tuple #[.int .i64 ((LA k : Nat) : Int), .agg #[.int .i64 s1, .int .i64 s2], .bool (decide (LA k ≤ fr))]) (by simp [results, Tryz.results106, go_sem, r0, r1]) rfl ⟨((HB.out.setCell hwX7 _).setCell hwX7 _).drew, k, fr, HRX.out, by rw [← HSk.out]⟩
  ·have hgn : g (ST k) = none := hg3 _ (HOK.out k) (fun i hi e => hex ⟨i, hi, e⟩)
   rw [hgn] at hlk
   obtain ⟨wU, hrunU, hmapU, hgrowU, hncU⟩ := hg1.store momKeys Tryz.underlying185 (by unfold maxLen; omega) (HOK.out k) (.int .i64 (k : Int))
   unfold momV at hrunU
   have hkeep : ∀ (kk : Nat) (o : Obj), wr.heap[kk]? = some o → (∀ es c, o ≠ .map es c) → wU.heap[kk]? = some o := fun kk o hk ho => (hgrowU.block kk (Array.getElem?_eq_some_iff.1 hk).1 (by have := hg1.ne hk ho; simp only [ne_eq, Option.some.injEq]; exact this)).trans hk
   have K3U := Lib.hid (show BlkR wU X3 _ from hkeep X3 _ K3.out (fun _ _ h => by cases h))
   have K7U := Lib.hid (show BlkR wU X7 _ from hkeep X7 _ K7.out (fun _ _ h => by cases h))
   have HBU := Lib.hid (HB.out.grown hgrowU HB.out.size (fun kk hk => by simp only [Option.some.injEq] at hk; omega))
   have HTU := Lib.hid (show TickM (tick r d) ⟨mt, mw⟩ BM (k + 1) wU from by
    rw [HTK.out]
    refine ⟨_, hmapU, fun i hi => ?_, fun x hx hne => ?_⟩
    ·show (if ST i = ST k then _ else g (ST i)) = _
     rcases Nat.lt_or_ge i k with h | h
     ·rw [if_neg (fun e => hex ⟨i, h, e⟩)]; exact hg2 i h
     ·obtain rfl : i = k := by omega
      rw [if_pos rfl]
    ·show (if x = ST k then _ else g x) = _
     rw [if_neg (fun e => hne k (by omega) e.symm)]
     exact hg3 x hx (fun i hi => hne i (by omega)))
   have HDN := Lib.hid (show ∀ i j, i < j → j < k + 1 → ST i ≠ ST j from fun i j hij hj e => by
    rcases Nat.lt_or_ge j k with h | h
    ·exact HDI.out i j hij h e
    ·obtain rfl : j = k := by omega
     exact hex ⟨i, hij, e⟩)
   obtain ⟨c3U, c3U_1, l3U⟩ := blkc2 K3U.out
   have HNXk := Lib.hid (HNX.out k wU HBU.out)
   clear hg1 hg2 hg3 hgn hmapU hgrowU hncU hkeep hex K3 K7 HTM HB
   have w1 : IntKind.i64.wrap ((k : Int) + 1) = (k : Int) + 1 := by rw [IntKind.wrap_i64]; omega
   have HLK := Lib.hid (HLS.out k)
   obtain ⟨S0, hS0⟩ : ∃ S, S = ST k := ⟨_, rfl⟩
   obtain ⟨S1, hS1⟩ : ∃ S, S = ST (k + 1) := ⟨_, rfl⟩
   have HM2 := Lib.hid (HMV.out k)
   rw [← hS0] at hlk hrunU c3 c3_1 c3U c3U_1
   rw [← hS0, ← hS1] at HNXk HLK
   have HMVV := Lib.hid (fun (W : World) => movesM_any S0 S1 W)
   have HS1 := Lib.hid hS1
   have HS0 := Lib.hid hS0
   clear hS0 hS1 HM2
   obtain ⟨s1, s2⟩ := S0
   obtain ⟨t1, t2⟩ := S1
   simp only [Option.getD_none, Option.isSome_none] at hlk hrunU c3 c3_1 c3U c3U_1 HNXk HLK HMVV
   go_wp2_with fail
   refine HNXk.out.mono ?_
   rintro e5 w5 ⟨rfl, hb5⟩
   have K3 := Lib.hid (show BlkR w5 X3 (.cells #[.int .i64 s1, .int .i64 s2] 27) from by have h := K3U.out.below hb5; rw [← HS0.out] at h; exact h)
   have K7 := Lib.hid (K7U.out.below hb5)
   have HB := bwt HBU hb5
   have HTM := Lib.hid (show TickM (tick r d) ⟨mt, mw⟩ BM (k + 1) w5 from by
    obtain ⟨g, q1, q2, q3⟩ := (HTK.out _ _ _).1 HTU.out
    exact (HTK.out _ _ _).2 ⟨g, q1.below hb5, q2, q3⟩)
   clear hb5 c3 c3_1 c3U c3U_1 l3 l3U hlk hrunU K3U K7U HBU HTU HNXk
   obtain ⟨MB, hMB⟩ : ∃ MB, MB = (s1 != t1) := ⟨_, rfl⟩
   rw [← hMB] at HMVV HLK
   obtain ⟨c3, c3_1, l3⟩ := blkc2 K3.out
   clear hMB
   go_wp2_with fail
   obtain ⟨w6, hW6⟩ : ∃ w6, w6 = w5.alloc (Obj.cells #[.int .i64 t1, .int .i64 t2] 27) := ⟨_, rfl⟩
   rw [← hW6]
   have hb6 : Below w5.heap.size w5 w6 := by rw [hW6]; (first|exact bwg|go_size)
   have k14 : BlkR w6 w5.heap.size (.cells #[.int .i64 t1, .int .i64 t2] 27) := by show w6.heap[w5.heap.size]? = _; rw [hW6]; exact heap_alloc_new _ _
   obtain ⟨X14, hX14⟩ : ∃ X, X = w5.heap.size := ⟨_, rfl⟩
   rw [← hX14] at k14
   simp only [← hX14]
   refine (HMVV.out _).mono ?_
   rintro e7 w7 ⟨rfl, hb7⟩
   have hb67 := hb6.trans (hb7.mono hb6.size)
   have K14 := Lib.hid (k14.below hb7)
   have K3 := Lib.hid (K3.out.below hb67)
   have K7 := Lib.hid (K7.out.below hb67)
   have HB := bwt HB hb67
   have HTM := Lib.hid (show TickM (tick r d) ⟨mt, mw⟩ BM (k + 1) w7 from by
    obtain ⟨g, q1, q2, q3⟩ := (HTK.out _ _ _).1 HTM.out
    exact (HTK.out _ _ _).2 ⟨g, q1.below hb67, q2, q3⟩)
   clear c3 c3_1 l3
   obtain ⟨c3, c3_1, _⟩ := blkc2 K3.out
   have f3 := blk_fz K3.out 0
   have f3_1 := blk_fz K3.out 1
   have l3 := K3.out.lt
   obtain ⟨d14, d14_1, l14⟩ := blkc2 K14.out
   clear hW6 hb6 hb7 hb67 k14 hX14
   cases MB
   all_goals
    go_wp2_with fail
    go_roundw
    case rel =>
     refine ⟨k + 1, by rw [HLK.out]; simp, by go_num, HDN, Lib.hid ?_, Lib.hid ((heap_set_neI (by omega)).trans ((heap_set_neI (by omega)).trans K7.out)), Lib.hid ?_, Lib.hid ((HB.out.setCell hwX _).setCell hwX _)⟩
     ·rw [← HS1.out]; exact blk_set (blk_set K3.out 0 _) 1 _
     ·obtain ⟨g, q1, q2, q3⟩ := (HTK.out _ _ _).1 HTM.out
      exact (HTK.out _ _ _).2 ⟨g, (q1.set K3.out).set (blk_set K3.out 0 _), q2, q3⟩
    case measure => simp [intOf]; omega
/- A pair after a tick; after how many ticks a pair rests: the program. (Printed by gen_rsp.py.) -/
theorem blk_put16 {w : World} {X t : Nat} {x0 x1 x2 x3 x4 x5 x6 x7 x8 x9 x10 x11 x12 x13 x14 x15 : Value} (h : w.heap[X]? = some (.cells #[x0, x1, x2, x3, x4, x5, x6, x7, x8, x9, x10, x11, x12, x13, x14, x15] t)) (v0 v1 v2 v3 v4 v5 v6 v7 v8 v9 v10 v11 v12 v13 v14 v15 : Value) :
    (((((((((((((((((w.setCell ⟨X, 0, none⟩ v0).setCell ⟨X, 1, none⟩ v1).setCell ⟨X, 2, none⟩ v2).setCell ⟨X, 3, none⟩ v3).setCell ⟨X, 4, none⟩ v4).setCell ⟨X, 5, none⟩ v5).setCell ⟨X, 6, none⟩ v6).setCell ⟨X, 7, none⟩ v7).setCell ⟨X, 8, none⟩ v8).setCell ⟨X, 9, none⟩ v9).setCell ⟨X, 10, none⟩ v10).setCell ⟨X, 11, none⟩ v11).setCell ⟨X, 12, none⟩ v12).setCell ⟨X, 13, none⟩ v13).setCell ⟨X, 14, none⟩ v14).setCell ⟨X, 15, none⟩ v15)).heap[X]? = some (.cells #[v0, v1, v2, v3, v4, v5, v6, v7, v8, v9, v10, v11, v12, v13, v14, v15] t) := by
 have h0 : (w.setCell ⟨X, 0, none⟩ v0).heap[X]? = some (.cells #[v0, x1, x2, x3, x4, x5, x6, x7, x8, x9, x10, x11, x12, x13, x14, x15] t) := by rw [blk_set h 0 v0]; rfl
 have h1 : ((w.setCell ⟨X, 0, none⟩ v0).setCell ⟨X, 1, none⟩ v1).heap[X]? = some (.cells #[v0, v1, x2, x3, x4, x5, x6, x7, x8, x9, x10, x11, x12, x13, x14, x15] t) := by rw [blk_set h0 1 v1]; rfl
 have h2 : (((w.setCell ⟨X, 0, none⟩ v0).setCell ⟨X, 1, none⟩ v1).setCell ⟨X, 2, none⟩ v2).heap[X]? = some (.cells #[v0, v1, v2, x3, x4, x5, x6, x7, x8, x9, x10, x11, x12, x13, x14, x15] t) := by rw [blk_set h1 2 v2]; rfl
 have h3 : ((((w.setCell ⟨X, 0, none⟩ v0).setCell ⟨X, 1, none⟩ v1).setCell ⟨X, 2, none⟩ v2).setCell ⟨X, 3, none⟩ v3).heap[X]? = some (.cells #[v0, v1, v2, v3, x4, x5, x6, x7, x8, x9, x10, x11, x12, x13, x14, x15] t) := by rw [blk_set h2 3 v3]; rfl
 have h4 : (((((w.setCell ⟨X, 0, none⟩ v0).setCell ⟨X, 1, none⟩ v1).setCell ⟨X, 2, none⟩ v2).setCell ⟨X, 3, none⟩ v3).setCell ⟨X, 4, none⟩ v4).heap[X]? = some (.cells #[v0, v1, v2, v3, v4, x5, x6, x7, x8, x9, x10, x11, x12, x13, x14, x15] t) := by rw [blk_set h3 4 v4]; rfl
 have h5 : ((((((w.setCell ⟨X, 0, none⟩ v0).setCell ⟨X, 1, none⟩ v1).setCell ⟨X, 2, none⟩ v2).setCell ⟨X, 3, none⟩ v3).setCell ⟨X, 4, none⟩ v4).setCell ⟨X, 5, none⟩ v5).heap[X]? = some (.cells #[v0, v1, v2, v3, v4, v5, x6, x7, x8, x9, x10, x11, x12, x13, x14, x15] t) := by rw [blk_set h4 5 v5]; rfl
 have h6 : (((((((w.setCell ⟨X, 0, none⟩ v0).setCell ⟨X, 1, none⟩ v1).setCell ⟨X, 2, none⟩ v2).setCell ⟨X, 3, none⟩ v3).setCell ⟨X, 4, none⟩ v4).setCell ⟨X, 5, none⟩ v5).setCell ⟨X, 6, none⟩ v6).heap[X]? = some (.cells #[v0, v1, v2, v3, v4, v5, v6, x7, x8, x9, x10, x11, x12, x13, x14, x15] t) := by rw [blk_set h5 6 v6]; rfl
 have h7 : ((((((((w.setCell ⟨X, 0, none⟩ v0).setCell ⟨X, 1, none⟩ v1).setCell ⟨X, 2, none⟩ v2).setCell ⟨X, 3, none⟩ v3).setCell ⟨X, 4, none⟩ v4).setCell ⟨X, 5, none⟩ v5).setCell ⟨X, 6, none⟩ v6).setCell ⟨X, 7, none⟩ v7).heap[X]? = some (.cells #[v0, v1, v2, v3, v4, v5, v6, v7, x8, x9, x10, x11, x12, x13, x14, x15] t) := by rw [blk_set h6 7 v7]; rfl
 have h8 : (((((((((w.setCell ⟨X, 0, none⟩ v0).setCell ⟨X, 1, none⟩ v1).setCell ⟨X, 2, none⟩ v2).setCell ⟨X, 3, none⟩ v3).setCell ⟨X, 4, none⟩ v4).setCell ⟨X, 5, none⟩ v5).setCell ⟨X, 6, none⟩ v6).setCell ⟨X, 7, none⟩ v7).setCell ⟨X, 8, none⟩ v8).heap[X]? = some (.cells #[v0, v1, v2, v3, v4, v5, v6, v7, v8, x9, x10, x11, x12, x13, x14, x15] t) := by rw [blk_set h7 8 v8]; rfl
 have h9 : ((((((((((w.setCell ⟨X, 0, none⟩ v0).setCell ⟨X, 1, none⟩ v1).setCell ⟨X, 2, none⟩ v2).setCell ⟨X, 3, none⟩ v3).setCell ⟨X, 4, none⟩ v4).setCell ⟨X, 5, none⟩ v5).setCell ⟨X, 6, none⟩ v6).setCell ⟨X, 7, none⟩ v7).setCell ⟨X, 8, none⟩ v8).setCell ⟨X, 9, none⟩ v9).heap[X]? = some (.cells #[v0, v1, v2, v3, v4, v5, v6, v7, v8, v9, x10, x11, x12, x13, x14, x15] t) := by rw [blk_set h8 9 v9]; rfl
 have h10 : (((((((((((w.setCell ⟨X, 0, none⟩ v0).setCell ⟨X, 1, none⟩ v1).setCell ⟨X, 2, none⟩ v2).setCell ⟨X, 3, none⟩ v3).setCell ⟨X, 4, none⟩ v4).setCell ⟨X, 5, none⟩ v5).setCell ⟨X, 6, none⟩ v6).setCell ⟨X, 7, none⟩ v7).setCell ⟨X, 8, none⟩ v8).setCell ⟨X, 9, none⟩ v9).setCell ⟨X, 10, none⟩ v10).heap[X]? = some (.cells #[v0, v1, v2, v3, v4, v5, v6, v7, v8, v9, v10, x11, x12, x13, x14, x15] t) := by rw [blk_set h9 10 v10]; rfl
 have h11 : ((((((((((((w.setCell ⟨X, 0, none⟩ v0).setCell ⟨X, 1, none⟩ v1).setCell ⟨X, 2, none⟩ v2).setCell ⟨X, 3, none⟩ v3).setCell ⟨X, 4, none⟩ v4).setCell ⟨X, 5, none⟩ v5).setCell ⟨X, 6, none⟩ v6).setCell ⟨X, 7, none⟩ v7).setCell ⟨X, 8, none⟩ v8).setCell ⟨X, 9, none⟩ v9).setCell ⟨X, 10, none⟩ v10).setCell ⟨X, 11, none⟩ v11).heap[X]? = some (.cells #[v0, v1, v2, v3, v4, v5, v6, v7, v8, v9, v10, v11, x12, x13, x14, x15] t) := by rw [blk_set h10 11 v11]; rfl
 have h12 : (((((((((((((w.setCell ⟨X, 0, none⟩ v0).setCell ⟨X, 1, none⟩ v1).setCell ⟨X, 2, none⟩ v2).setCell ⟨X, 3, none⟩ v3).setCell ⟨X, 4, none⟩ v4).setCell ⟨X, 5, none⟩ v5).setCell ⟨X, 6, none⟩ v6).setCell ⟨X, 7, none⟩ v7).setCell ⟨X, 8, none⟩ v8).setCell ⟨X, 9, none⟩ v9).setCell ⟨X, 10, none⟩ v10).setCell ⟨X, 11, none⟩ v11).setCell ⟨X, 12, none⟩ v12).heap[X]? = some (.cells #[v0, v1, v2, v3, v4, v5, v6, v7, v8, v9, v10, v11, v12, x13, x14, x15] t) := by rw [blk_set h11 12 v12]; rfl
 have h13 : ((((((((((((((w.setCell ⟨X, 0, none⟩ v0).setCell ⟨X, 1, none⟩ v1).setCell ⟨X, 2, none⟩ v2).setCell ⟨X, 3, none⟩ v3).setCell ⟨X, 4, none⟩ v4).setCell ⟨X, 5, none⟩ v5).setCell ⟨X, 6, none⟩ v6).setCell ⟨X, 7, none⟩ v7).setCell ⟨X, 8, none⟩ v8).setCell ⟨X, 9, none⟩ v9).setCell ⟨X, 10, none⟩ v10).setCell ⟨X, 11, none⟩ v11).setCell ⟨X, 12, none⟩ v12).setCell ⟨X, 13, none⟩ v13).heap[X]? = some (.cells #[v0, v1, v2, v3, v4, v5, v6, v7, v8, v9, v10, v11, v12, v13, x14, x15] t) := by rw [blk_set h12 13 v13]; rfl
 have h14 : (((((((((((((((w.setCell ⟨X, 0, none⟩ v0).setCell ⟨X, 1, none⟩ v1).setCell ⟨X, 2, none⟩ v2).setCell ⟨X, 3, none⟩ v3).setCell ⟨X, 4, none⟩ v4).setCell ⟨X, 5, none⟩ v5).setCell ⟨X, 6, none⟩ v6).setCell ⟨X, 7, none⟩ v7).setCell ⟨X, 8, none⟩ v8).setCell ⟨X, 9, none⟩ v9).setCell ⟨X, 10, none⟩ v10).setCell ⟨X, 11, none⟩ v11).setCell ⟨X, 12, none⟩ v12).setCell ⟨X, 13, none⟩ v13).setCell ⟨X, 14, none⟩ v14).heap[X]? = some (.cells #[v0, v1, v2, v3, v4, v5, v6, v7, v8, v9, v10, v11, v12, v13, v14, x15] t) := by rw [blk_set h13 14 v14]; rfl
 have h15 : ((((((((((((((((w.setCell ⟨X, 0, none⟩ v0).setCell ⟨X, 1, none⟩ v1).setCell ⟨X, 2, none⟩ v2).setCell ⟨X, 3, none⟩ v3).setCell ⟨X, 4, none⟩ v4).setCell ⟨X, 5, none⟩ v5).setCell ⟨X, 6, none⟩ v6).setCell ⟨X, 7, none⟩ v7).setCell ⟨X, 8, none⟩ v8).setCell ⟨X, 9, none⟩ v9).setCell ⟨X, 10, none⟩ v10).setCell ⟨X, 11, none⟩ v11).setCell ⟨X, 12, none⟩ v12).setCell ⟨X, 13, none⟩ v13).setCell ⟨X, 14, none⟩ v14).setCell ⟨X, 15, none⟩ v15).heap[X]? = some (.cells #[v0, v1, v2, v3, v4, v5, v6, v7, v8, v9, v10, v11, v12, v13, v14, v15] t) := by rw [blk_set h14 15 v15]; rfl
 exact h15
theorem below_put16 {w0 w : World} {B X : Nat} (h : Below B w0 w) (hX : B ≤ X) (v0 v1 v2 v3 v4 v5 v6 v7 v8 v9 v10 v11 v12 v13 v14 v15 : Value) :
    Below B w0 ((((((((((((((((w.setCell ⟨X, 0, none⟩ v0).setCell ⟨X, 1, none⟩ v1).setCell ⟨X, 2, none⟩ v2).setCell ⟨X, 3, none⟩ v3).setCell ⟨X, 4, none⟩ v4).setCell ⟨X, 5, none⟩ v5).setCell ⟨X, 6, none⟩ v6).setCell ⟨X, 7, none⟩ v7).setCell ⟨X, 8, none⟩ v8).setCell ⟨X, 9, none⟩ v9).setCell ⟨X, 10, none⟩ v10).setCell ⟨X, 11, none⟩ v11).setCell ⟨X, 12, none⟩ v12).setCell ⟨X, 13, none⟩ v13).setCell ⟨X, 14, none⟩ v14).setCell ⟨X, 15, none⟩ v15) :=
 (((((((((((((((h.setCell hX _).setCell hX _).setCell hX _).setCell hX _).setCell hX _).setCell hX _).setCell hX _).setCell hX _).setCell hX _).setCell hX _).setCell hX _).setCell hX _).setCell hX _).setCell hX _).setCell hX _).setCell hX _
set_option maxHeartbeats 2000000 in
set_option maxRecDepth 100000 in
theorem pairTicked_any (p : Pai) (d : Int) (w : World) (hp : PaiV p) (hd : -10000 ≤ d ∧ d ≤ 10000) :
    Calls Tryz.prog 39 #[.agg #[.int .i64 (p).a.tgt, .int .i64 (p).a.band, .int .i64 (p).a.dly, .int .i64 (p).a.stp, .int .i64 (p).a.lo, .int .i64 (p).a.hi, .int .i64 (p).b.tgt, .int .i64 (p).b.band, .int .i64 (p).b.dly, .int .i64 (p).b.stp, .int .i64 (p).b.lo, .int .i64 (p).b.hi, .int .i64 (p).ma.tap, .int .i64 (p).ma.wait, .int .i64 (p).mb.tap, .int .i64 (p).mb.wait], .int .i64 d] w fun e' w' => e' = .returned (.agg #[.int .i64 (tickP d p).a.tgt, .int .i64 (tickP d p).a.band, .int .i64 (tickP d p).a.dly, .int .i64 (tickP d p).a.stp, .int .i64 (tickP d p).a.lo, .int .i64 (tickP d p).a.hi, .int .i64 (tickP d p).b.tgt, .int .i64 (tickP d p).b.band, .int .i64 (tickP d p).b.dly, .int .i64 (tickP d p).b.stp, .int .i64 (tickP d p).b.lo, .int .i64 (tickP d p).b.hi, .int .i64 (tickP d p).ma.tap, .int .i64 (tickP d p).ma.wait, .int .i64 (tickP d p).mb.tap, .int .i64 (tickP d p).mb.wait]) ∧ Below w.heap.size w w' := by
 have key : ∀ (r : Reg) (m : Mom), RegV r → MomV r m → -400000 ≤ r.stp * m.tap ∧ r.stp * m.tap ≤ 400000 := by
  intro r m hr hm
  have h1 := hm.1
  have h2 := hr.l0
  have h3 := hr.h1
  have h4 : (r.stp * m.tap).natAbs ≤ 10000 * 40 := by rw [Int.natAbs_mul]; exact Nat.mul_le_mul (by have := hr.s0; have := hr.s1; omega) (by omega)
  omega
 have k1 := key p.a p.ma hp.1 hp.2.2.1
 have k2 := key p.b p.mb hp.2.1 hp.2.2.2
 have HA := Lib.hid (fun (W : World) => acted_any p.a p.ma (volP p d) W hp.1 hp.2.2.1)
 have HB := Lib.hid (fun (W : World) => acted_any p.b p.mb (volP p d) W hp.2.1 hp.2.2.2)
 have hT : tickP d p = ⟨p.a, p.b, act p.a p.ma (volP p d), act p.b p.mb (volP p d)⟩ := rfl
 rw [hT]
 generalize act p.a p.ma (volP p d) = R1 at *
 generalize act p.b p.mb (volP p d) = R2 at *
 have hV : volP p d = d + (p.a.stp * p.ma.tap + p.b.stp * p.mb.tap) / 2 := rfl
 generalize volP p d = V at *
 obtain ⟨⟨tgt, band, dly, stp, lo, hi⟩, ⟨tgt2, band2, dly2, stp2, lo2, hi2⟩, ⟨tap, wait⟩, ⟨tap2, wait2⟩⟩ := p
 obtain ⟨ra, rb⟩ := R1
 obtain ⟨rc, rd⟩ := R2
 simp only at HA HB hV k1 k2 ⊢
 generalize hP1 : stp * tap = P1 at *
 generalize hP2 : stp2 * tap2 = P2 at *
 have w1 : IntKind.i64.wrap P1 = P1 := by rw [IntKind.wrap_i64]; omega
 have w2 : IntKind.i64.wrap P2 = P2 := by rw [IntKind.wrap_i64]; omega
 have w3 : IntKind.i64.wrap (P1 + P2) = P1 + P2 := by rw [IntKind.wrap_i64]; omega
 have w4 : IntKind.i64.wrap ((P1 + P2) / 2) = (P1 + P2) / 2 := by rw [IntKind.wrap_i64]; omega
 have w5 : IntKind.i64.wrap (d + (P1 + P2) / 2) = d + (P1 + P2) / 2 := by rw [IntKind.wrap_i64]; omega
 subst hV
 clear hp hT key
 go_enter Tryz.func39, Tryz.ntmps39
 go_wp2_with fail
 obtain ⟨w2, hW2⟩ : ∃ w2, w2 = (w.alloc (Obj.cells #[.int .i64 tgt, .int .i64 band, .int .i64 dly, .int .i64 stp, .int .i64 lo, .int .i64 hi, .int .i64 tgt2, .int .i64 band2, .int .i64 dly2, .int .i64 stp2, .int .i64 lo2, .int .i64 hi2, .int .i64 tap, .int .i64 wait, .int .i64 tap2, .int .i64 wait2] 29)).alloc (Obj.cells #[.int .i64 0, .int .i64 0, .int .i64 0, .int .i64 0, .int .i64 0, .int .i64 0, .int .i64 0, .int .i64 0, .int .i64 0, .int .i64 0, .int .i64 0, .int .i64 0, .int .i64 0, .int .i64 0, .int .i64 0, .int .i64 0] 29) := ⟨_, rfl⟩
 rw [← hW2]
 have hb2 : Below w.heap.size w w2 := by rw [hW2]; (first|exact bwg|go_size)
 have k2 : BlkR w2 w.heap.size (.cells #[.int .i64 tgt, .int .i64 band, .int .i64 dly, .int .i64 stp, .int .i64 lo, .int .i64 hi, .int .i64 tgt2, .int .i64 band2, .int .i64 dly2, .int .i64 stp2, .int .i64 lo2, .int .i64 hi2, .int .i64 tap, .int .i64 wait, .int .i64 tap2, .int .i64 wait2] 29) := by
  show w2.heap[w.heap.size]? = _
  rw [hW2, Below.heap_alloc _ _ _ (by simp)]; exact heap_alloc_new _ _
 have k4 : BlkR w2 (w.heap.size + 1) (.cells #[.int .i64 0, .int .i64 0, .int .i64 0, .int .i64 0, .int .i64 0, .int .i64 0, .int .i64 0, .int .i64 0, .int .i64 0, .int .i64 0, .int .i64 0, .int .i64 0, .int .i64 0, .int .i64 0, .int .i64 0, .int .i64 0] 29) := by
  show w2.heap[w.heap.size + 1]? = _
  rw [hW2]
  have := heap_alloc_new (w.alloc (Obj.cells #[.int .i64 tgt, .int .i64 band, .int .i64 dly, .int .i64 stp, .int .i64 lo, .int .i64 hi, .int .i64 tgt2, .int .i64 band2, .int .i64 dly2, .int .i64 stp2, .int .i64 lo2, .int .i64 hi2, .int .i64 tap, .int .i64 wait, .int .i64 tap2, .int .i64 wait2] 29)) (Obj.cells #[.int .i64 0, .int .i64 0, .int .i64 0, .int .i64 0, .int .i64 0, .int .i64 0, .int .i64 0, .int .i64 0, .int .i64 0, .int .i64 0, .int .i64 0, .int .i64 0, .int .i64 0, .int .i64 0, .int .i64 0, .int .i64 0] 29)
  rwa [World.size_alloc] at this
 obtain ⟨X2, hX2⟩ : ∃ X, X = w.heap.size := ⟨_, rfl⟩
 obtain ⟨X4, hX4⟩ : ∃ X, X = w.heap.size + 1 := ⟨_, rfl⟩
 rw [← hX4] at k4
 rw [← hX2] at k2
 simp only [← hX4]
 simp only [← hX2]
 have hw2 : w.heap.size ≤ X2 := by omega
 have hw4 : w.heap.size ≤ X4 := by omega
 have n24 : X2 ≠ X4 := by omega
 clear hW2 hX2 hX4 k1
 refine (HA.out _).mono ?_
 rintro e3 w3 ⟨rfl, hb3⟩
 have K2 := Lib.hid (k2.below hb3)
 have K4 := Lib.hid (k4.below hb3)
 have HBW := Lib.hid (hb2.trans (hb3.mono hb2.size))
 have c_0 := blk_cell K2.out (i := 0) rfl
 have c_1 := blk_cell K2.out (i := 1) rfl
 have c_2 := blk_cell K2.out (i := 2) rfl
 have c_3 := blk_cell K2.out (i := 3) rfl
 have c_4 := blk_cell K2.out (i := 4) rfl
 have c_5 := blk_cell K2.out (i := 5) rfl
 have c_6 := blk_cell K2.out (i := 6) rfl
 have c_7 := blk_cell K2.out (i := 7) rfl
 have c_8 := blk_cell K2.out (i := 8) rfl
 have c_9 := blk_cell K2.out (i := 9) rfl
 have c_10 := blk_cell K2.out (i := 10) rfl
 have c_11 := blk_cell K2.out (i := 11) rfl
 have c_12 := blk_cell K2.out (i := 12) rfl
 have c_13 := blk_cell K2.out (i := 13) rfl
 have c_14 := blk_cell K2.out (i := 14) rfl
 have c_15 := blk_cell K2.out (i := 15) rfl
 have f_0 := blk_fz K2.out 0
 have f_1 := blk_fz K2.out 1
 have f_2 := blk_fz K2.out 2
 have f_3 := blk_fz K2.out 3
 have f_4 := blk_fz K2.out 4
 have f_5 := blk_fz K2.out 5
 have f_6 := blk_fz K2.out 6
 have f_7 := blk_fz K2.out 7
 have f_8 := blk_fz K2.out 8
 have f_9 := blk_fz K2.out 9
 have f_10 := blk_fz K2.out 10
 have f_11 := blk_fz K2.out 11
 have f_12 := blk_fz K2.out 12
 have f_13 := blk_fz K2.out 13
 have f_14 := blk_fz K2.out 14
 have f_15 := blk_fz K2.out 15
 have l2 := K2.out.lt
 clear k2 k4 hb2 hb3 HA
 go_wp2_with fail
 obtain ⟨w4, hW4⟩ : ∃ w4, w4 = (w3.setCell ⟨X2, 12, none⟩ (.int .i64 ra)).setCell ⟨X2, 13, none⟩ (.int .i64 rb) := ⟨_, rfl⟩
 rw [← hW4]
 have k2 : BlkR w4 X2 (.cells #[.int .i64 tgt, .int .i64 band, .int .i64 dly, .int .i64 stp, .int .i64 lo, .int .i64 hi, .int .i64 tgt2, .int .i64 band2, .int .i64 dly2, .int .i64 stp2, .int .i64 lo2, .int .i64 hi2, .int .i64 ra, .int .i64 rb, .int .i64 tap2, .int .i64 wait2] 29) := by rw [hW4]; exact blk_set (blk_set K2.out 12 _) 13 _
 have k4 : BlkR w4 X4 (.cells #[.int .i64 0, .int .i64 0, .int .i64 0, .int .i64 0, .int .i64 0, .int .i64 0, .int .i64 0, .int .i64 0, .int .i64 0, .int .i64 0, .int .i64 0, .int .i64 0, .int .i64 0, .int .i64 0, .int .i64 0, .int .i64 0] 29) := by rw [hW4]; exact (heap_set_neI n24.symm).trans ((heap_set_neI n24.symm).trans K4.out)
 have hbw : Below w.heap.size w w4 := by rw [hW4]; exact (HBW.out.setCell hw2 _).setCell hw2 _
 clear hW4 c_0 c_1 c_2 c_3 c_4 c_5 c_6 c_7 c_8 c_9 c_10 c_11 c_12 c_13 c_14 c_15 f_0 f_1 f_2 f_3 f_4 f_5 f_6 f_7 f_8 f_9 f_10 f_11 f_12 f_13 f_14 f_15 l2 K2 K4 HBW
 refine (HB.out _).mono ?_
 rintro e5 w5' ⟨rfl, hb5⟩
 have K2 := Lib.hid (k2.below hb5)
 have K4 := Lib.hid (k4.below hb5)
 have HBW := Lib.hid (hbw.trans (hb5.mono hbw.size))
 have c_0 := blk_cell K2.out (i := 0) rfl
 have c_1 := blk_cell K2.out (i := 1) rfl
 have c_2 := blk_cell K2.out (i := 2) rfl
 have c_3 := blk_cell K2.out (i := 3) rfl
 have c_4 := blk_cell K2.out (i := 4) rfl
 have c_5 := blk_cell K2.out (i := 5) rfl
 have c_6 := blk_cell K2.out (i := 6) rfl
 have c_7 := blk_cell K2.out (i := 7) rfl
 have c_8 := blk_cell K2.out (i := 8) rfl
 have c_9 := blk_cell K2.out (i := 9) rfl
 have c_10 := blk_cell K2.out (i := 10) rfl
 have c_11 := blk_cell K2.out (i := 11) rfl
 have c_12 := blk_cell K2.out (i := 12) rfl
 have c_13 := blk_cell K2.out (i := 13) rfl
 have c_14 := blk_cell K2.out (i := 14) rfl
 have c_15 := blk_cell K2.out (i := 15) rfl
 have f_0 := blk_fz K2.out 0
 have f_1 := blk_fz K2.out 1
 have f_2 := blk_fz K2.out 2
 have f_3 := blk_fz K2.out 3
 have f_4 := blk_fz K2.out 4
 have f_5 := blk_fz K2.out 5
 have f_6 := blk_fz K2.out 6
 have f_7 := blk_fz K2.out 7
 have f_8 := blk_fz K2.out 8
 have f_9 := blk_fz K2.out 9
 have f_10 := blk_fz K2.out 10
 have f_11 := blk_fz K2.out 11
 have f_12 := blk_fz K2.out 12
 have f_13 := blk_fz K2.out 13
 have f_14 := blk_fz K2.out 14
 have f_15 := blk_fz K2.out 15
 have l2 := K2.out.lt
 have d_0 := blk_cell K4.out (i := 0) rfl
 have d_1 := blk_cell K4.out (i := 1) rfl
 have d_2 := blk_cell K4.out (i := 2) rfl
 have d_3 := blk_cell K4.out (i := 3) rfl
 have d_4 := blk_cell K4.out (i := 4) rfl
 have d_5 := blk_cell K4.out (i := 5) rfl
 have d_6 := blk_cell K4.out (i := 6) rfl
 have d_7 := blk_cell K4.out (i := 7) rfl
 have d_8 := blk_cell K4.out (i := 8) rfl
 have d_9 := blk_cell K4.out (i := 9) rfl
 have d_10 := blk_cell K4.out (i := 10) rfl
 have d_11 := blk_cell K4.out (i := 11) rfl
 have d_12 := blk_cell K4.out (i := 12) rfl
 have d_13 := blk_cell K4.out (i := 13) rfl
 have d_14 := blk_cell K4.out (i := 14) rfl
 have d_15 := blk_cell K4.out (i := 15) rfl
 have g_0 := blk_fz K4.out 0
 have g_1 := blk_fz K4.out 1
 have g_2 := blk_fz K4.out 2
 have g_3 := blk_fz K4.out 3
 have g_4 := blk_fz K4.out 4
 have g_5 := blk_fz K4.out 5
 have g_6 := blk_fz K4.out 6
 have g_7 := blk_fz K4.out 7
 have g_8 := blk_fz K4.out 8
 have g_9 := blk_fz K4.out 9
 have g_10 := blk_fz K4.out 10
 have g_11 := blk_fz K4.out 11
 have g_12 := blk_fz K4.out 12
 have g_13 := blk_fz K4.out 13
 have g_14 := blk_fz K4.out 14
 have g_15 := blk_fz K4.out 15
 have l4 := K4.out.lt
 clear k2 k4 hbw hb5 HB
 go_wp2
 obtain ⟨w6, hW6⟩ : ∃ w6, w6 = (w5'.setCell ⟨X2, 14, none⟩ (.int .i64 rc)).setCell ⟨X2, 15, none⟩ (.int .i64 rd) := ⟨_, rfl⟩
 rw [← hW6]
 have k4 : BlkR w6 X4 (.cells #[.int .i64 0, .int .i64 0, .int .i64 0, .int .i64 0, .int .i64 0, .int .i64 0, .int .i64 0, .int .i64 0, .int .i64 0, .int .i64 0, .int .i64 0, .int .i64 0, .int .i64 0, .int .i64 0, .int .i64 0, .int .i64 0] 29) := by rw [hW6]; exact (heap_set_neI n24.symm).trans ((heap_set_neI n24.symm).trans K4.out)
 have hbw : Below w.heap.size w w6 := by rw [hW6]; exact (HBW.out.setCell hw2 _).setCell hw2 _
 have k4 := blk_put16 k4 (.int .i64 tgt) (.int .i64 band) (.int .i64 dly) (.int .i64 stp) (.int .i64 lo) (.int .i64 hi) (.int .i64 tgt2) (.int .i64 band2) (.int .i64 dly2) (.int .i64 stp2) (.int .i64 lo2) (.int .i64 hi2) (.int .i64 ra) (.int .i64 rb) (.int .i64 rc) (.int .i64 rd)
 have hbw := below_put16 hbw hw4 (.int .i64 tgt) (.int .i64 band) (.int .i64 dly) (.int .i64 stp) (.int .i64 lo) (.int .i64 hi) (.int .i64 tgt2) (.int .i64 band2) (.int .i64 dly2) (.int .i64 stp2) (.int .i64 lo2) (.int .i64 hi2) (.int .i64 ra) (.int .i64 rb) (.int .i64 rc) (.int .i64 rd)
 clear hW6 c_0 c_1 c_2 c_3 c_4 c_5 c_6 c_7 c_8 c_9 c_10 c_11 c_12 c_13 c_14 c_15 f_0 f_1 f_2 f_3 f_4 f_5 f_6 f_7 f_8 f_9 f_10 f_11 f_12 f_13 f_14 f_15 d_0 d_1 d_2 d_3 d_4 d_5 d_6 d_7 d_8 d_9 d_10 d_11 d_12 d_13 d_14 d_15 g_0 g_1 g_2 g_3 g_4 g_5 g_6 g_7 g_8 g_9 g_10 g_11 g_12 g_13 g_14 g_15 l2 l4 K2 K4 HBW
 generalize World.setCell (World.setCell (World.setCell (World.setCell (World.setCell (World.setCell (World.setCell (World.setCell (World.setCell (World.setCell (World.setCell (World.setCell (World.setCell (World.setCell (World.setCell (World.setCell (w6) ⟨X4, 0, none⟩ (.int .i64 tgt)) ⟨X4, 1, none⟩ (.int .i64 band)) ⟨X4, 2, none⟩ (.int .i64 dly)) ⟨X4, 3, none⟩ (.int .i64 stp)) ⟨X4, 4, none⟩ (.int .i64 lo)) ⟨X4, 5, none⟩ (.int .i64 hi)) ⟨X4, 6, none⟩ (.int .i64 tgt2)) ⟨X4, 7, none⟩ (.int .i64 band2)) ⟨X4, 8, none⟩ (.int .i64 dly2)) ⟨X4, 9, none⟩ (.int .i64 stp2)) ⟨X4, 10, none⟩ (.int .i64 lo2)) ⟨X4, 11, none⟩ (.int .i64 hi2)) ⟨X4, 12, none⟩ (.int .i64 ra)) ⟨X4, 13, none⟩ (.int .i64 rb)) ⟨X4, 14, none⟩ (.int .i64 rc)) ⟨X4, 15, none⟩ (.int .i64 rd) = wz at *
 have c_0 := blk_cell k4 (i := 0) rfl
 have c_1 := blk_cell k4 (i := 1) rfl
 have c_2 := blk_cell k4 (i := 2) rfl
 have c_3 := blk_cell k4 (i := 3) rfl
 have c_4 := blk_cell k4 (i := 4) rfl
 have c_5 := blk_cell k4 (i := 5) rfl
 have c_6 := blk_cell k4 (i := 6) rfl
 have c_7 := blk_cell k4 (i := 7) rfl
 have c_8 := blk_cell k4 (i := 8) rfl
 have c_9 := blk_cell k4 (i := 9) rfl
 have c_10 := blk_cell k4 (i := 10) rfl
 have c_11 := blk_cell k4 (i := 11) rfl
 have c_12 := blk_cell k4 (i := 12) rfl
 have c_13 := blk_cell k4 (i := 13) rfl
 have c_14 := blk_cell k4 (i := 14) rfl
 have c_15 := blk_cell k4 (i := 15) rfl
 refine bodyPost_ret (v := .agg #[.int .i64 tgt, .int .i64 band, .int .i64 dly, .int .i64 stp, .int .i64 lo, .int .i64 hi, .int .i64 tgt2, .int .i64 band2, .int .i64 dly2, .int .i64 stp2, .int .i64 lo2, .int .i64 hi2, .int .i64 ra, .int .i64 rb, .int .i64 rc, .int .i64 rd]) (by simp [results, Tryz.results39, go_sem, c_0, c_1, c_2, c_3, c_4, c_5, c_6, c_7, c_8, c_9, c_10, c_11, c_12, c_13, c_14, c_15]) rfl ⟨rfl, hbw⟩
end Go.Proofs.YtdjinmieogpgcaaGreat
