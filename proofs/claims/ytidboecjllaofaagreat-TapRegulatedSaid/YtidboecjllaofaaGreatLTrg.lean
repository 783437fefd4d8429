import Derived.Test.YtidboecjllaofaaGreatSchedMZ
import Derived.Test.YtidboecjllaofaaGreatTCou
import Derived.Test.YtidboecjllaofaaGreatTRAct
import Derived.Test.YtidboecjllaofaaGreatTSam
import Derived.Test.YtidboecjllaofaaGreatTSetP
/- The law TapRegulated: regulators, the moment after a tick, and a course of moments are as specified. -/
namespace Go.Proofs.YtidboecjllaofaaGreat
open Go.RowKit Go.Shelf
set_option linter.unusedVariables false
set_option linter.unusedSimpArgs false

theorem fe1 {x : Int} {l : List Int} (h : x ≠ 0) : firstErr (x :: l) = x := by show (if x = 0 then _ else x) = x; rw [if_neg h]
theorem fe0 {l : List Int} : firstErr (0 :: l) = firstErr l := by show (if (0 : Int) = 0 then _ else _) = _; rw [if_pos rfl]
theorem couE_1 {r : Reg} (m : Mom) (l : List Int) (h : regE r ≠ 0) : couE r m l = regE r := fe1 h
theorem couE_2 {r : Reg} {m : Mom} (l : List Int) (h : regE r = 0) (h2 : momE r m ≠ 0) : couE r m l = momE r m := by
  unfold couE; rw [h, fe0, momX_eq m (regE_zero.1 h), fe1 h2]
theorem couE_3 {r : Reg} {m : Mom} {l : List Int} (h : regE r = 0) (h2 : momE r m = 0) (h3 : 200 < l.length) : couE r m l = 8 := by
  unfold couE; rw [h, fe0, momX_eq m (regE_zero.1 h), h2, fe0]
  unfold unl
  rw [decide_eq_false (show ¬ (l.length : Int) ≤ 200 by omega)]; rfl
theorem couE_4 {r : Reg} {m : Mom} {l : List Int} (h : regE r = 0) (h2 : momE r m = 0) (h3 : l.length ≤ 200) {k : Nat} (hk : k < l.length) (h4 : swE (l.getD k 0) ≠ 0) : couE r m l = 2 := by
  unfold couE; rw [h, fe0, momX_eq m (regE_zero.1 h), h2, fe0]
  unfold unl
  rw [decide_eq_true (show (l.length : Int) ≤ 200 by omega)]
  have : l.any (fun x => swE x != 0) = true := List.any_eq_true.2 ⟨l.getD k 0, getD_mem hk, bne_iff_ne.2 h4⟩
  rw [this]; rfl
theorem couE_5 {r : Reg} {m : Mom} {l : List Int} (h : regE r = 0) (h2 : momE r m = 0) (h3 : l.length ≤ 200) (h4 : ∀ k, k < l.length → swE (l.getD k 0) = 0) : couE r m l = 0 := by
  unfold couE; rw [h, fe0, momX_eq m (regE_zero.1 h), h2, fe0]
  unfold unl
  rw [decide_eq_true (show (l.length : Int) ≤ 200 by omega)]
  have : l.any (fun x => swE x != 0) = false := by
    rw [List.any_eq_false]
    intro x hx
    obtain ⟨k, hk, rfl⟩ := List.mem_iff_getElem.1 hx
    have := h4 k hk
    rw [show l.getD k 0 = l[k] by simp [List.getD, hk]] at this
    simp [this]
  rw [this]; rfl
set_option maxHeartbeats 2000000 in
set_option maxRecDepth 100000 in
theorem trg_any (r : Reg) (m : Mom) (d : Int) (l : List Int) (a : Option Addr) (n c : Nat) (w : World) (hl : IntsR w a n l) :
    Calls Tryz.prog 7 #[.agg #[.int .i64 r.tgt, .int .i64 r.band, .int .i64 r.dly, .int .i64 r.stp, .int .i64 r.lo, .int .i64 r.hi], .agg #[.int .i64 m.tap, .int .i64 m.wait, .int .i64 d], .slice a n c] w fun e' w' => e' = .returned (.bool true) ∧ Below w.heap.size w w' := by
  have hnn := hl.small
  have HI := Lib.hid (fun (W : World) (hb : Below w.heap.size w W) => hl.below hb)
  have HLN := Lib.hid hl.len
  have HRE := Lib.hid (fun W => rRegulatorErr_any r W)
  have HCR := Lib.hid (fun W => checkReg_any r W)
  have HME := Lib.hid (fun (h : regE r = 0) W => rMomentErr_any r m W (regE_zero.1 h))
  have HSE := Lib.hid (fun x W => rSwingErr_any x W)
  have HTK := Lib.hid (fun W => regulatedX_any r m d W)
  have HCI := Lib.hid (fun (hn : n ≤ 100000) (W : World) (hb : Below w.heap.size w W) => copyInts_any l a n c W (hl.below hb) hn)
  have HCO := Lib.hid (fun (a' : Option Addr) (c' : Nat) (W : World) (h : IntsR W a' n l) => courseOf_any r m l a' n c' W h)
  have HRG := Lib.hid (fun (h1 : regE r = 0) (h2 : momE r m = 0) (h3 : swE d = 0) W => rRegulated_any r m d W (regE_zero.1 h1) (momE_zero.1 h2) (swE_zero.1 h3))
  have HRK := Lib.hid (fun (h1 : regE r = 0) (h2 : momE r m = 0) (k : Nat) (h3 : swE (l.getD k 0) = 0) W => rRegulated_any r (nowM r m l k) (l.getD k 0) W (regE_zero.1 h1) (nowM_ok (regE_zero.1 h1) (momE_zero.1 h2) l k) (swE_zero.1 h3))
  have hSS : ∀ k, tick r (l.getD k 0) (nowM r m l k) = nowM r m l (k + 1) := fun _ => rfl
  simp only [hSS] at HRK
  have HLS := Lib.hid (fun k => couL_succ r m l k)
  have HL0 := Lib.hid (show couL r m l 0 = [] from rfl)
  have HS0 := Lib.hid (show nowM r m l 0 = m from rfl)
  have HE := Lib.hid (show rgdE r m d = firstErr [regE r, momE r m, swE d] from rfl)
  have HC1 := Lib.hid (fun h => couE_1 (r := r) m l h)
  have HC2 := Lib.hid (fun h h2 => couE_2 (r := r) (m := m) l h h2)
  have HC3 := Lib.hid (fun h h2 (h3 : 200 < n) => couE_3 (r := r) (m := m) (l := l) h h2 (by rw [hl.len]; exact h3))
  have HC4 := Lib.hid (fun h h2 (h3 : n ≤ 200) (k : Nat) (hk : k < n) h4 => couE_4 (r := r) (m := m) (l := l) h h2 (by rw [hl.len]; exact h3) (k := k) (by rw [hl.len]; exact hk) h4)
  have HC5 := Lib.hid (fun h h2 (h3 : n ≤ 200) (h4 : ∀ k, k < n → swE (l.getD k 0) = 0) => couE_5 (r := r) (m := m) (l := l) h h2 (by rw [hl.len]; exact h3) (fun k hk => h4 k (by rw [← hl.len]; exact hk)))
  generalize couE r m l = EC at *
  generalize couL r m l = CL at *
  generalize nowM r m l = NM at *
  generalize tick r d m = T at *
  generalize rgdE r m d = E at *
  generalize regE r = E1 at *
  generalize momE r m = E2 at *
  obtain ⟨E3, hE3⟩ : ∃ E3, E3 = swE d := ⟨_, rfl⟩
  rw [← hE3] at HE HRG
  have HE3 := Lib.hid hE3
  obtain ⟨tgt, band, dly, stp, lo, hi⟩ := r
  obtain ⟨tap, wait⟩ := m
  obtain ⟨T1, T2⟩ := T
  simp only at HRE HCR HME HTK HCO HRG HRK ⊢
  clear hl hSS hE3
  go_enter Tryz.func7, Tryz.ntmps7
  go_wp2_with fail
  obtain ⟨w1, hW1⟩ : ∃ w1, w1 = (w.alloc (Obj.cells #[.int .i64 tgt, .int .i64 band, .int .i64 dly, .int .i64 stp, .int .i64 lo, .int .i64 hi] 25)).alloc (Obj.cells #[.int .i64 tap, .int .i64 wait, .int .i64 d] 92) := ⟨_, rfl⟩
  rw [← hW1]
  have hb1 : Below w.heap.size w w1 := by rw [hW1]; (repeat' (first | (with_reducible exact Below.refl _ _) | (with_reducible assumption) | (with_reducible refine Below.drewN ?_ _) | (with_reducible refine Below.alloc ?_ ?_ _) | (with_reducible refine Below.drew ?_) | (with_reducible refine Below.setCell ?_ ?_ _) | (with_reducible refine Below.step (by assumption) ?_ ?_) | (with_reducible exact And.left (by assumption)) | go_size))
  have k3 : BlkR w1 w.heap.size (.cells #[.int .i64 tgt, .int .i64 band, .int .i64 dly, .int .i64 stp, .int .i64 lo, .int .i64 hi] 25) := by
    show w1.heap[w.heap.size]? = _
    rw [hW1, Below.heap_alloc _ _ _ (by simp)]
    exact heap_alloc_new _ _
  have k4 : BlkR w1 (w.heap.size + 1) (.cells #[.int .i64 tap, .int .i64 wait, .int .i64 d] 92) := by
    show w1.heap[w.heap.size + 1]? = _
    rw [hW1]
    have := heap_alloc_new (w.alloc (Obj.cells #[.int .i64 tgt, .int .i64 band, .int .i64 dly, .int .i64 stp, .int .i64 lo, .int .i64 hi] 25)) (Obj.cells #[.int .i64 tap, .int .i64 wait, .int .i64 d] 92)
    simpa using this
  obtain ⟨X3, hX3⟩ : ∃ X, X = w.heap.size := ⟨_, rfl⟩
  obtain ⟨X4, hX4⟩ : ∃ X, X = w.heap.size + 1 := ⟨_, rfl⟩
  rw [← hX4] at k4
  rw [← hX3] at k3
  simp only [← hX4]
  simp only [← hX3]
  clear hW1 hX3 hX4
  refine (awake_any w1).mono ?_
  rintro e2 w2 ⟨rfl, hb2⟩
  have K3 := Lib.hid (k3.below hb2)
  have K4 := Lib.hid (k4.below hb2)
  have HB := Lib.hid (hb1.trans (hb2.mono hb1.size))
  clear hb1 hb2 k3 k4
  have hn3 : (60 < n ∧ n ≤ 200) ∨ 202 < n ∨ n ≤ 60 ∨ (200 < n ∧ n ≤ 202) := by omega
  rcases hn3 with ⟨g1, g2⟩ | g1 | g1
  · have f1 : (60 : Int) < (n : Int) := by omega
    have f2 : (n : Int) ≤ 200 := by omega
    have HBX := HB
    clear hnn HI HLN HRE HCR HME HSE HTK HCI HCO HRG HRK HLS HL0 HS0 HE HC1 HC2 HC3 HC4 HC5
    go_wp2
    go_ret
    exact ⟨ret_bool (by simp), HB.out⟩
  · have f1 : (60 : Int) < (n : Int) := by omega
    have f2 : ¬ (n : Int) ≤ 200 := by omega
    have f3 : (202 : Int) < (n : Int) := by omega
    clear hnn HI HLN HRE HCR HME HSE HTK HCI HCO HRG HRK HLS HL0 HS0 HE HC1 HC2 HC3 HC4 HC5
    go_wp2
    go_ret
    exact ⟨ret_bool (by simp), HB.out⟩
  · have hn5 : n ≤ 100000 := by omega
    have HCI2 := Lib.hid (HCI.out hn5)
    clear HCI
    have c0 := blk_cell K3.out (i := 0) rfl
    have c1 := blk_cell K3.out (i := 1) rfl
    have c2 := blk_cell K3.out (i := 2) rfl
    have c3 := blk_cell K3.out (i := 3) rfl
    have c4 := blk_cell K3.out (i := 4) rfl
    have c5 := blk_cell K3.out (i := 5) rfl
    have l3 := K3.out.lt
    have d0 := blk_cell K4.out (i := 0) rfl
    have d1 := blk_cell K4.out (i := 1) rfl
    have d2 := blk_cell K4.out (i := 2) rfl
    have l4 := K4.out.lt
    have f3 : ¬ (202 : Int) < (n : Int) := by omega
    rcases g1 with g1 | ⟨g1, g2⟩
    · have f1 : ¬ (60 : Int) < (n : Int) := by omega
      go_wp2_with fail
      refine (HTK.out _).mono ?_
      rintro e5 w5 ⟨rfl, hb5⟩
      clear c0 c1 c2 c3 c4 c5 l3 d0 d1 d2 l4
      have K3 := Lib.hid (K3.out.below hb5)
      have K4 := Lib.hid (K4.out.below hb5)
      have HB := Lib.hid (HB.out.trans (hb5.mono HB.out.size))
      clear hb5 HTK
      obtain ⟨Q1, hQ1⟩ : ∃ Q, Q = (if E = 0 then (⟨T1, T2⟩ : Mom) else ⟨0, 0⟩).tap := ⟨_, rfl⟩
      obtain ⟨Q2, hQ2⟩ : ∃ Q, Q = (if E = 0 then (⟨T1, T2⟩ : Mom) else ⟨0, 0⟩).wait := ⟨_, rfl⟩
      rw [← hQ1, ← hQ2]
      have HQ1 := Lib.hid hQ1
      have HQ2 := Lib.hid hQ2
      clear hQ1 hQ2
      obtain ⟨w6, hW6⟩ : ∃ w6, w6 = w5.alloc (Obj.cells #[.int .i64 Q1, .int .i64 Q2] 27) := ⟨_, rfl⟩
      have hb6 : Below w5.heap.size w5 w6 := by rw [hW6]; (repeat' (first | (with_reducible exact Below.refl _ _) | (with_reducible assumption) | (with_reducible refine Below.drewN ?_ _) | (with_reducible refine Below.alloc ?_ ?_ _) | (with_reducible refine Below.drew ?_) | (with_reducible refine Below.setCell ?_ ?_ _) | (with_reducible refine Below.step (by assumption) ?_ ?_) | (with_reducible exact And.left (by assumption)) | go_size))
      have k7 : BlkR w6 w5.heap.size (.cells #[.int .i64 Q1, .int .i64 Q2] 27) := by show w6.heap[w5.heap.size]? = _; rw [hW6]; exact heap_alloc_new _ _
      have K7 := Lib.hid k7
      have HW6 := Lib.hid hW6
      have K3 := Lib.hid (K3.out.below hb6)
      have K4 := Lib.hid (K4.out.below hb6)
      have HB := Lib.hid (HB.out.trans (hb6.mono HB.out.size))
      clear hb6 k7 hW6
      go_wp2_with fail
      rw [← HW6.out]
      obtain ⟨X7, hX7⟩ : ∃ X, X = w5.heap.size := ⟨_, rfl⟩
      rw [← hX7] at K7
      simp only [← hX7]
      clear hX7 HW6
      have c0 := blk_cell K3.out (i := 0) rfl
      have c1 := blk_cell K3.out (i := 1) rfl
      have c2 := blk_cell K3.out (i := 2) rfl
      have c3 := blk_cell K3.out (i := 3) rfl
      have c4 := blk_cell K3.out (i := 4) rfl
      have c5 := blk_cell K3.out (i := 5) rfl
      have l3 := K3.out.lt
      have d0 := blk_cell K4.out (i := 0) rfl
      have d1 := blk_cell K4.out (i := 1) rfl
      have d2 := blk_cell K4.out (i := 2) rfl
      have l4 := K4.out.lt
      refine wp_region_laterM (B := w6.heap.size) [(true, 0), (true, 1), (true, 2), (true, 3), (false, 4), (false, 5), (true, 6), (true, 7), (true, 8), (true, 9), (true, 10)] (by kernel_rfl) (by kernel_rfl) ?_; simp only [opsOf, List.filterMap_cons, List.filterMap_nil, List.getElem?_toArray, List.getElem?_cons_zero, List.getElem?_cons_succ, Option.map_some]
      repeat (refine mix_head ?_; (show wpQuiet _ _ _ _ (_ :: _) _; go_big_quiet_step (fail)); refine wpQuiet_nil ?_)
      have HX := Lib.hid ((Below.refl w6.heap.size w6).drew)
      refine mix_tail ?_; go_wp2_with fail
      refine (HCI2.out _ (HB.out.trans (HX.out.mono HB.out.size))).mono ?_
      rintro e7 w7 ⟨a7, c7, rfl, hb7, ho7⟩
      have HX := Lib.hid (HX.out.trans hb7)
      have HL7 := Lib.hid (SlR.of_owns ho7)
      clear hb7 ho7
      go_wp2_with fail
      refine tailL_mk HX.out ?_
      repeat (refine mix_head ?_; (show wpQuiet _ _ _ _ (_ :: _) _; go_big_quiet_step (fail)); refine wpQuiet_nil ?_)
      refine mix_tail ?_; go_wp2_with fail
      refine (HCO.out a7 c7 _ HL7.out).mono ?_
      rintro e8 w8 ⟨ac, nc, cc, rfl, hb8, hr8⟩
      have HX := Lib.hid (HX.out.trans (hb8.mono HX.out.size))
      have HRC := Lib.hid hr8
      clear hb8 hr8 HL7 HCO HCI2
      go_wp2_with fail
      refine tailL_mk HX.out ?_
      repeat (refine mix_head ?_; (show wpQuiet _ _ _ _ (_ :: _) _; go_big_quiet_step (fail)); refine wpQuiet_nil ?_)
      refine mix_nil ?_
      have hbx := HX.out
      clear c0 c1 c2 c3 c4 c5 l3 d0 d1 d2 l4
      have K3 := Lib.hid (K3.out.below hbx)
      have K4 := Lib.hid (K4.out.below hbx)
      have K7 := Lib.hid (K7.out.below hbx)
      have HB := Lib.hid (HB.out.trans (hbx.mono HB.out.size))
      clear hbx HX
      have c0 := blk_cell K3.out (i := 0) rfl
      have c1 := blk_cell K3.out (i := 1) rfl
      have c2 := blk_cell K3.out (i := 2) rfl
      have c3 := blk_cell K3.out (i := 3) rfl
      have c4 := blk_cell K3.out (i := 4) rfl
      have c5 := blk_cell K3.out (i := 5) rfl
      have l3 := K3.out.lt
      have d0 := blk_cell K4.out (i := 0) rfl
      have d1 := blk_cell K4.out (i := 1) rfl
      have d2 := blk_cell K4.out (i := 2) rfl
      have l4 := K4.out.lt
      have f2 : ¬ (200 : Int) < (n : Int) := by omega
      go_wp2_with fail
      refine (HRE.out _).mono ?_
      rintro e9 w9 ⟨rfl, hb9⟩
      clear c0 c1 c2 c3 c4 c5 l3 d0 d1 d2 l4
      have K3 := Lib.hid (K3.out.below hb9)
      have K4 := Lib.hid (K4.out.below hb9)
      have K7 := Lib.hid (K7.out.below hb9)
      have HB := Lib.hid (HB.out.trans (hb9.mono HB.out.size))
      have HRC := Lib.hid (PairsR.below HRC.out hb9)
      clear hb9
      have c0 := blk_cell K3.out (i := 0) rfl
      have c1 := blk_cell K3.out (i := 1) rfl
      have c2 := blk_cell K3.out (i := 2) rfl
      have c3 := blk_cell K3.out (i := 3) rfl
      have c4 := blk_cell K3.out (i := 4) rfl
      have c5 := blk_cell K3.out (i := 5) rfl
      have l3 := K3.out.lt
      have d0 := blk_cell K4.out (i := 0) rfl
      have d1 := blk_cell K4.out (i := 1) rfl
      have d2 := blk_cell K4.out (i := 2) rfl
      have l4 := K4.out.lt
      go_wp2_with fail
      refine (HCR.out _).mono ?_
      rintro e10 w10 ⟨rfl, hb10⟩
      clear c0 c1 c2 c3 c4 c5 l3 d0 d1 d2 l4
      have K3 := Lib.hid (K3.out.below hb10)
      have K4 := Lib.hid (K4.out.below hb10)
      have K7 := Lib.hid (K7.out.below hb10)
      have HB := Lib.hid (HB.out.trans (hb10.mono HB.out.size))
      have HRC := Lib.hid (PairsR.below HRC.out hb10)
      clear hb10
      have c0 := blk_cell K3.out (i := 0) rfl
      have c1 := blk_cell K3.out (i := 1) rfl
      have c2 := blk_cell K3.out (i := 2) rfl
      have c3 := blk_cell K3.out (i := 3) rfl
      have c4 := blk_cell K3.out (i := 4) rfl
      have c5 := blk_cell K3.out (i := 5) rfl
      have l3 := K3.out.lt
      have d0 := blk_cell K4.out (i := 0) rfl
      have d1 := blk_cell K4.out (i := 1) rfl
      have d2 := blk_cell K4.out (i := 2) rfl
      have l4 := K4.out.lt
      clear HRE HCR
      have x1 : (E1 != E1) = false := by simp
      by_cases h1 : E1 = 0
      · subst h1
        have HME2 := Lib.hid (HME.out (by trivial))
        have HE2' := Lib.hid (HE.out.trans fe0)
        have HC22 := Lib.hid (fun h => HC2.out (by trivial) h)
        clear HME HC2
        go_wp2_with fail
        refine (HME2.out _).mono ?_
        rintro e11 w11 ⟨rfl, hb11⟩
        clear c0 c1 c2 c3 c4 c5 l3 d0 d1 d2 l4
        have K3 := Lib.hid (K3.out.below hb11)
        have K4 := Lib.hid (K4.out.below hb11)
        have K7 := Lib.hid (K7.out.below hb11)
        have HB := Lib.hid (HB.out.trans (hb11.mono HB.out.size))
        have HRC := Lib.hid (PairsR.below HRC.out hb11)
        clear hb11
        have c0 := blk_cell K3.out (i := 0) rfl
        have c1 := blk_cell K3.out (i := 1) rfl
        have c2 := blk_cell K3.out (i := 2) rfl
        have c3 := blk_cell K3.out (i := 3) rfl
        have c4 := blk_cell K3.out (i := 4) rfl
        have c5 := blk_cell K3.out (i := 5) rfl
        have l3 := K3.out.lt
        have d0 := blk_cell K4.out (i := 0) rfl
        have d1 := blk_cell K4.out (i := 1) rfl
        have d2 := blk_cell K4.out (i := 2) rfl
        have l4 := K4.out.lt
        clear x1
        by_cases h2 : E2 = 0
        · subst h2
          have HE3' := Lib.hid (HE2'.out.trans fe0)
          go_wp2_with fail
          refine (HSE.out d _).mono ?_
          rintro e12 w12 ⟨rfl, hb12⟩
          clear c0 c1 c2 c3 c4 c5 l3 d0 d1 d2 l4
          have K3 := Lib.hid (K3.out.below hb12)
          have K4 := Lib.hid (K4.out.below hb12)
          have K7 := Lib.hid (K7.out.below hb12)
          have HB := Lib.hid (HB.out.trans (hb12.mono HB.out.size))
          have HRC := Lib.hid (PairsR.below HRC.out hb12)
          clear hb12
          have c0 := blk_cell K3.out (i := 0) rfl
          have c1 := blk_cell K3.out (i := 1) rfl
          have c2 := blk_cell K3.out (i := 2) rfl
          have c3 := blk_cell K3.out (i := 3) rfl
          have c4 := blk_cell K3.out (i := 4) rfl
          have c5 := blk_cell K3.out (i := 5) rfl
          have l3 := K3.out.lt
          have d0 := blk_cell K4.out (i := 0) rfl
          have d1 := blk_cell K4.out (i := 1) rfl
          have d2 := blk_cell K4.out (i := 2) rfl
          have l4 := K4.out.lt
          rw [← HE3.out]
          by_cases h3 : E3 = 0
          · subst h3
            obtain rfl : E = 0 := HE3'.out
            obtain rfl : Q1 = T1 := by rw [HQ1.out, if_pos rfl]
            obtain rfl : Q2 = T2 := by rw [HQ2.out, if_pos rfl]
            have HRG2 := Lib.hid (HRG.out (by trivial) (by trivial) (by trivial))
            clear HRG
            have q0 := blk_cell K7.out (i := 0) rfl
            have q1 := blk_cell K7.out (i := 1) rfl
            have l7 := K7.out.lt
            go_wp2_with fail
            refine later_all (by kernel_rfl) (by kernel_rfl) ?_; repeat go_big_quiet_step(first | with_reducible exact calls_later (HRG2.out _))
            refine wpQuiet_nil ?_; intro w13 hb13
            clear q0 q1 l7
            clear c0 c1 c2 c3 c4 c5 l3 d0 d1 d2 l4
            have K3 := Lib.hid (K3.out.below hb13)
            have K4 := Lib.hid (K4.out.below hb13)
            have K7 := Lib.hid (K7.out.below hb13)
            have HB := Lib.hid (HB.out.trans (hb13.mono HB.out.size))
            have HRC := Lib.hid (PairsR.below HRC.out hb13)
            clear hb13
            have c0 := blk_cell K3.out (i := 0) rfl
            have c1 := blk_cell K3.out (i := 1) rfl
            have c2 := blk_cell K3.out (i := 2) rfl
            have c3 := blk_cell K3.out (i := 3) rfl
            have c4 := blk_cell K3.out (i := 4) rfl
            have c5 := blk_cell K3.out (i := 5) rfl
            have l3 := K3.out.lt
            have d0 := blk_cell K4.out (i := 0) rfl
            have d1 := blk_cell K4.out (i := 1) rfl
            have d2 := blk_cell K4.out (i := 2) rfl
            have l4 := K4.out.lt
            go_wp2_with fail
            clear c0 c1 c2 c3 c4 c5 l3 d0 d1 d2 l4
            obtain ⟨wL, hWL⟩ : ∃ wL, wL = w13.alloc (Obj.cells #[.int .i64 tap, .int .i64 wait] 27) := ⟨_, rfl⟩
            rw [← hWL]
            have k13 : BlkR wL w13.heap.size (.cells #[.int .i64 (NM 0).tap, .int .i64 (NM 0).wait] 27) := by
              rw [HS0.out, hWL]
              exact heap_alloc_new _ _
            have hbL : Below w13.heap.size w13 wL := by rw [hWL]; (repeat' (first | (with_reducible exact Below.refl _ _) | (with_reducible assumption) | (with_reducible refine Below.drewN ?_ _) | (with_reducible refine Below.alloc ?_ ?_ _) | (with_reducible refine Below.drew ?_) | (with_reducible refine Below.setCell ?_ ?_ _) | (with_reducible refine Below.step (by assumption) ?_ ?_) | (with_reducible exact And.left (by assumption)) | go_size))
            have hzL : w13.heap.size + 1 ≤ wL.heap.size := by rw [hWL]; simp
            obtain ⟨NA, hNA⟩ : ∃ N, N = w13.heap.size := ⟨_, rfl⟩
            simp only [← hNA]
            rw [← hNA] at k13 hbL hzL
            have hnw : w.heap.size ≤ NA := by rw [hNA]; exact HB.out.size
            have n3 : X3 < NA := by rw [hNA]; exact K3.out.lt
            have HNA := Lib.hid hNA
            have HBL := Lib.hid hbL
            have K13 := Lib.hid k13
            clear hWL hNA k13 hbL K4 K7
            go_loopw [12, 14] (fun v i wr => ∃ (k : Nat) (av : Option Addr) (cv : Nat), v = .slice av k cv ∧ i = .int .i64 k ∧ k ≤ n ∧ Hid (∀ j, j < k → swE (l.getD j 0) = 0) ∧ Hid (wr.ownsRow (NA + 1) 27 2 (.slice av k cv) k (pcells (CL k))) ∧ Hid (BlkR wr NA (.cells #[.int .i64 (NM k).tap, .int .i64 (NM k).wait] 27)) ∧ NA + 1 ≤ wr.heap.size ∧ Hid (Below NA w13 wr)) (fun _ i _ => n - (intOf i).toNat)
            case atStart => exact ⟨0, none, 0, rfl, rfl, Nat.zero_le _, Lib.hid (fun j h => absurd h (Nat.not_lt_zero _)), Lib.hid (by rw [HL0.out]; exact World.ownsRow_nil _ _ _ _), K13, hzL, HBL⟩
            case round =>
              clear K13 hzL HBL
              obtain ⟨k, av, cv, rfl, rfl, hk, HSW, hO, K13, hzr, HBA⟩ := hrel
              have HBw := Lib.hid (HB.out.trans (HBA.out.mono hnw))
              by_cases hlt : k < n
              · obtain ⟨b, o, rfl, hb, hc⟩ := (HI.out _ HBw.out).addr (by omega)
                have hck := hc k hlt
                have HLK := Lib.hid (HLS.out k)
                have HK4 := Lib.hid (fun h => HC4.out (by trivial) (by trivial) (by omega) k hlt h)
                have HRKk := Lib.hid (fun h W => HRK.out (by trivial) (by trivial) k h W)
                obtain ⟨f, hff⟩ : ∃ f, f = l.getD k 0 := ⟨_, rfl⟩
                rw [← hff] at hck HK4 HRKk
                have HFF := Lib.hid hff
                have i0 : (0 : Int) ≤ (k : Int) := by omega
                have i1 : (k : Int) < (n : Int) := by omega
                clear hc hff
                go_wp2_with fail
                refine (HSE.out f _).mono ?_
                rintro e14 w14 ⟨rfl, hb14⟩
                have HBA := Lib.hid (HBA.out.trans (hb14.mono (show NA ≤ wr.heap.size by omega)))
                have K13 := Lib.hid (K13.out.below hb14)
                have hO14 := owns_below hO.out hb14 (fun q hq => (hO.out.lt q hq).2)
                have hck14 : w14.cell? ⟨b, o + k, none⟩ = some (.int .i64 f) := by rw [cellB hb14 _ _ hb]; exact hck
                have hz14 := hb14.size
                have hb14' : b < w14.heap.size := by omega
                have K3 := Lib.hid (show BlkR w14 X3 _ from (HBA.out.block X3 n3).trans K3.out)
                clear hck hb14 hO HBw
                by_cases hs : swE f = 0
                · have HRKf := Lib.hid (HRKk.out hs)
                  have HSW2 := Lib.hid (show ∀ j, j < k + 1 → swE (l.getD j 0) = 0 from fun j hj => by
                    rcases Nat.lt_or_ge j k with h | h
                    · exact HSW.out j h
                    · obtain rfl : j = k := by omega
                      rw [← HFF.out]; exact hs)
                  obtain ⟨N0, hN0⟩ : ∃ N, N = NM k := ⟨_, rfl⟩
                  obtain ⟨N1, hN1⟩ : ∃ N, N = NM (k + 1) := ⟨_, rfl⟩
                  have HN1 := Lib.hid hN1
                  rw [← hN0] at K13 HRKf
                  rw [← hN1] at HRKf HLK
                  obtain ⟨a1, a2⟩ := N0
                  obtain ⟨g1', g2'⟩ := N1
                  simp only at K13 HRKf
                  have HT := Lib.hid (show pcells (CL (k + 1)) = pcells (CL k) ++ pcells [(g1', g2')] by rw [HLK.out, pcells_append]; rfl)
                  have c0 := blk_cell K3.out (i := 0) rfl
                  have c1 := blk_cell K3.out (i := 1) rfl
                  have c2 := blk_cell K3.out (i := 2) rfl
                  have c3 := blk_cell K3.out (i := 3) rfl
                  have c4 := blk_cell K3.out (i := 4) rfl
                  have c5 := blk_cell K3.out (i := 5) rfl
                  have l3 := K3.out.lt
                  have m0 := blk_cell K13.out (i := 0) rfl
                  have m1 := blk_cell K13.out (i := 1) rfl
                  have l13 := K13.out.lt
                  have HO14 := Lib.hid hO14
                  clear hN0 hN1 HSW hO14 HK4 HRKk
                  go_wp2_with fail
                  refine wp_region_mixZ (B := w14.heap.size) [(true, 0), (true, 1), (true, 2), (true, 3), (true, 4), (true, 5), (false, 6), (false, 7)] 7 (by kernel_rfl) (by kernel_rfl) ?_; simp only [opsOf, List.filterMap_cons, List.filterMap_nil, List.getElem?_toArray, List.getElem?_cons_zero, List.getElem?_cons_succ, Option.map_some]
                  repeat (refine mixz_head ?_; (show wpQuiet _ _ _ _ (_ :: _) _; go_big_quiet_step (fail)); refine wpQuiet_nil ?_)
                  have HX := Lib.hid ((Below.refl w14.heap.size w14).drew)
                  refine mixz_tail ?_; go_wp2_with fail
                  refine (HRKf.out _).mono ?_
                  rintro e15 w15 ⟨rfl, hb15⟩
                  have HX := Lib.hid (HX.out.trans hb15)
                  clear hb15
                  go_wp2_with fail
                  refine tailL_mk HX.out ?_
                  have hX := HX.out
                  have K13 := Lib.hid (K13.out.below hX)
                  have HO15 := Lib.hid (owns_below HO14.out hX (fun q hq => (HO14.out.lt q hq).2))
                  have HBA := Lib.hid (HBA.out.trans (hX.mono (show NA ≤ w14.heap.size by omega)))
                  have hz15 := hX.size
                  clear c0 c1 c2 c3 c4 c5 l3 m0 m1 l13 hX HX hck14
                  have m0 := blk_cell K13.out (i := 0) rfl
                  have m1 := blk_cell K13.out (i := 1) rfl
                  have f0 := blk_fz K13.out 0
                  have f1' := blk_fz K13.out 1
                  have l13 := K13.out.lt
                  refine mixz_last ?_; go_wp2_with fail
                  refine tailZ_end ?_
                  have n45 : NA < NA + 1 := by omega
                  have hnz : NA + 1 ≤ w15.heap.size := by omega
                  have HO6 := Lib.hid ((ownsRow_setCell_below (ownsRow_setCell_below HO15.out (a := ⟨NA, 0, none⟩) n45 (.int .i64 g1')) (a := ⟨NA, 1, none⟩) n45 (.int .i64 g2')).alloc (Obj.cells #[.int .i64 g1', .int .i64 g2'] 27))
                  have HSL := Lib.hid (show SlR (((w15.setCell ⟨NA, 0, none⟩ (.int .i64 g1')).setCell ⟨NA, 1, none⟩ (.int .i64 g2')).alloc (Obj.cells #[.int .i64 g1', .int .i64 g2'] 27)) (some ⟨w15.heap.size, 0, none⟩) 1 2 (pcells [(g1', g2')]) from SlR.lit ((w15.setCell ⟨NA, 0, none⟩ (.int .i64 g1')).setCell ⟨NA, 1, none⟩ (.int .i64 g2')) _ [.int .i64 g1', .int .i64 g2'] _ _ 1 2 rfl (by simp) rfl (by omega))
                  have HK4 := Lib.hid (show BlkR (((w15.setCell ⟨NA, 0, none⟩ (.int .i64 g1')).setCell ⟨NA, 1, none⟩ (.int .i64 g2')).alloc (Obj.cells #[.int .i64 g1', .int .i64 g2'] 27)) NA (.cells #[.int .i64 g1', .int .i64 g2'] 27) from blk_below (blk_set (blk_set K13.out 0 (.int .i64 g1')) 1 (.int .i64 g2')) ((Below.refl _ _).alloc (Nat.le_refl _) _))
                  have hzW : w15.heap.size + 1 = (((w15.setCell ⟨NA, 0, none⟩ (.int .i64 g1')).setCell ⟨NA, 1, none⟩ (.int .i64 g2')).alloc (Obj.cells #[.int .i64 g1', .int .i64 g2'] 27)).heap.size := by simp
                  have HBW := Lib.hid (show Below NA w13 (((w15.setCell ⟨NA, 0, none⟩ (.int .i64 g1')).setCell ⟨NA, 1, none⟩ (.int .i64 g2')).alloc (Obj.cells #[.int .i64 g1', .int .i64 g2'] 27)) from by have h := (HBA.out.setCell (p := ⟨NA, 0, none⟩) (Nat.le_refl _) (.int .i64 g1')).setCell (p := ⟨NA, 1, none⟩) (Nat.le_refl _) (.int .i64 g2'); exact h.alloc (by simp; omega) _)
                  clear HO14 HO15 K3 HBA HRKf
                  go_wp2_with (at_builtin; refine wpList_append_sl _ rfl _ _ 95 rfl (NA + 1) 27 _ 2 16 Tryz.underlying95 infoMom rfl (by omega) _ _ _ rfl HO6.out _ 1 1 (pcells [(g1', g2')]) rfl HSL.out (by intro u hu; simp [pcells] at hu; rcases hu with rfl | rfl <;> rfl) (by omega) (by omega) (by rw [← hzW]; omega) ?_)
                  intro v2 w2 hown2 hgr2 hb2
                  obtain ⟨av2, cv2, rfl, _, _⟩ := owns_slice hown2
                  rw [← HT.out] at hown2
                  have HO2 := Lib.hid hown2
                  have HB2 := Lib.hid (HBW.out.trans (hb2.mono (by omega)))
                  have HK42 := Lib.hid (show BlkR w2 NA (.cells #[.int .i64 (NM (k + 1)).tap, .int .i64 (NM (k + 1)).wait] 27) from by rw [← HN1.out]; exact (hb2.block NA n45).trans HK4.out)
                  have hz2 : NA + 1 ≤ w2.heap.size := by have := hb2.size; omega
                  clear hown2 hgr2 hb2 HT HO6 HSL HK4 HBW m0 m1 f0 f1' l13
                  go_wp2
                  go_roundw
                  case rel => exact ⟨k + 1, av2, cv2, rfl, by go_num, by omega, HSW2, HO2, HK42, hz2, HB2⟩
                  case measure => simp [intOf]; omega
                · have hec : EC = 2 := HK4.out hs
                  have HR8 := Lib.hid HRC.out.1
                  rw [if_neg (by rw [hec]; decide)] at HR8
                  obtain rfl : nc = 0 := by
                    have := HR8.out
                    simp [pcells] at this
                    omega
                  subst hec
                  have e2 := bne_iff_ne.2 hs
                  have HBw := Lib.hid (HB.out.trans (HBA.out.mono hnw))
                  clear HRC HR8 hO14 HK4 HRKk
                  go_wp2
                  go_ret
                  exact ⟨ret_bool (by simp), HBw.out⟩
              · obtain rfl : n = k := by omega
                have hec : EC = 0 := HC5.out (by trivial) (by trivial) (by omega) (fun j hj => HSW.out j hj)
                have hrc := HRC.out
                rw [if_pos hec] at hrc
                subst hec
                have HRC2 := Lib.hid (PairsR.below hrc (show Below w13.heap.size w13 wr by rw [← HNA.out]; exact HBA.out))
                have HW2 := Lib.hid (show PairsR wr av n (CL n) from SlR.of_owns hO.out)
                clear hrc HRC hO
                go_wp2_with fail
                refine (sameM_any (CL n) (CL n) ac av nc cc n cv wr HRC2.out HW2.out).mono ?_
                rintro e15 w15 ⟨rfl, m15, rfl⟩
                go_wp2
                go_ret
                exact ⟨ret_bool (by simp), by have := HBw.out; (repeat' (first | (with_reducible exact Below.refl _ _) | (with_reducible assumption) | (with_reducible refine Below.drewN ?_ _) | (with_reducible refine Below.alloc ?_ ?_ _) | (with_reducible refine Below.drew ?_) | (with_reducible refine Below.setCell ?_ ?_ _) | (with_reducible refine Below.step (by assumption) ?_ ?_) | (with_reducible exact And.left (by assumption)) | go_size))⟩
          · obtain rfl : E = E3 := HE3'.out.trans (fe1 h3)
            obtain rfl : Q1 = 0 := by rw [HQ1.out, if_neg h3]
            obtain rfl : Q2 = 0 := by rw [HQ2.out, if_neg h3]
            have e1 := bne_iff_ne.2 h3
            have x8 : (E == 0) = false := by simpa using h3
            have q0 := blk_cell K7.out (i := 0) rfl
            have q1 := blk_cell K7.out (i := 1) rfl
            have l7 := K7.out.lt
            clear h3 HRG HQ1 HQ2
            go_wp2_with fail
            have x9 : (E != E) = false := by simp
            refine later_all (by kernel_rfl) (by kernel_rfl) ?_; repeat go_big_quiet_step(fail)
            refine wpQuiet_nil ?_; intro w13 hb13
            clear q0 q1 l7
            clear c0 c1 c2 c3 c4 c5 l3 d0 d1 d2 l4
            have K3 := Lib.hid (K3.out.below hb13)
            have K4 := Lib.hid (K4.out.below hb13)
            have K7 := Lib.hid (K7.out.below hb13)
            have HB := Lib.hid (HB.out.trans (hb13.mono HB.out.size))
            have HRC := Lib.hid (PairsR.below HRC.out hb13)
            clear hb13
            have c0 := blk_cell K3.out (i := 0) rfl
            have c1 := blk_cell K3.out (i := 1) rfl
            have c2 := blk_cell K3.out (i := 2) rfl
            have c3 := blk_cell K3.out (i := 3) rfl
            have c4 := blk_cell K3.out (i := 4) rfl
            have c5 := blk_cell K3.out (i := 5) rfl
            have l3 := K3.out.lt
            have d0 := blk_cell K4.out (i := 0) rfl
            have d1 := blk_cell K4.out (i := 1) rfl
            have d2 := blk_cell K4.out (i := 2) rfl
            have l4 := K4.out.lt
            go_wp2_with fail
            clear c0 c1 c2 c3 c4 c5 l3 d0 d1 d2 l4
            obtain ⟨wL, hWL⟩ : ∃ wL, wL = w13.alloc (Obj.cells #[.int .i64 tap, .int .i64 wait] 27) := ⟨_, rfl⟩
            rw [← hWL]
            have k13 : BlkR wL w13.heap.size (.cells #[.int .i64 (NM 0).tap, .int .i64 (NM 0).wait] 27) := by
              rw [HS0.out, hWL]
              exact heap_alloc_new _ _
            have hbL : Below w13.heap.size w13 wL := by rw [hWL]; (repeat' (first | (with_reducible exact Below.refl _ _) | (with_reducible assumption) | (with_reducible refine Below.drewN ?_ _) | (with_reducible refine Below.alloc ?_ ?_ _) | (with_reducible refine Below.drew ?_) | (with_reducible refine Below.setCell ?_ ?_ _) | (with_reducible refine Below.step (by assumption) ?_ ?_) | (with_reducible exact And.left (by assumption)) | go_size))
            have hzL : w13.heap.size + 1 ≤ wL.heap.size := by rw [hWL]; simp
            obtain ⟨NA, hNA⟩ : ∃ N, N = w13.heap.size := ⟨_, rfl⟩
            simp only [← hNA]
            rw [← hNA] at k13 hbL hzL
            have hnw : w.heap.size ≤ NA := by rw [hNA]; exact HB.out.size
            have n3 : X3 < NA := by rw [hNA]; exact K3.out.lt
            have HNA := Lib.hid hNA
            have HBL := Lib.hid hbL
            have K13 := Lib.hid k13
            clear hWL hNA k13 hbL K4 K7
            go_loopw [12, 14] (fun v i wr => ∃ (k : Nat) (av : Option Addr) (cv : Nat), v = .slice av k cv ∧ i = .int .i64 k ∧ k ≤ n ∧ Hid (∀ j, j < k → swE (l.getD j 0) = 0) ∧ Hid (wr.ownsRow (NA + 1) 27 2 (.slice av k cv) k (pcells (CL k))) ∧ Hid (BlkR wr NA (.cells #[.int .i64 (NM k).tap, .int .i64 (NM k).wait] 27)) ∧ NA + 1 ≤ wr.heap.size ∧ Hid (Below NA w13 wr)) (fun _ i _ => n - (intOf i).toNat)
            case atStart => exact ⟨0, none, 0, rfl, rfl, Nat.zero_le _, Lib.hid (fun j h => absurd h (Nat.not_lt_zero _)), Lib.hid (by rw [HL0.out]; exact World.ownsRow_nil _ _ _ _), K13, hzL, HBL⟩
            case round =>
              clear K13 hzL HBL
              obtain ⟨k, av, cv, rfl, rfl, hk, HSW, hO, K13, hzr, HBA⟩ := hrel
              have HBw := Lib.hid (HB.out.trans (HBA.out.mono hnw))
              by_cases hlt : k < n
              · obtain ⟨b, o, rfl, hb, hc⟩ := (HI.out _ HBw.out).addr (by omega)
                have hck := hc k hlt
                have HLK := Lib.hid (HLS.out k)
                have HK4 := Lib.hid (fun h => HC4.out (by trivial) (by trivial) (by omega) k hlt h)
                have HRKk := Lib.hid (fun h W => HRK.out (by trivial) (by trivial) k h W)
                obtain ⟨f, hff⟩ : ∃ f, f = l.getD k 0 := ⟨_, rfl⟩
                rw [← hff] at hck HK4 HRKk
                have HFF := Lib.hid hff
                have i0 : (0 : Int) ≤ (k : Int) := by omega
                have i1 : (k : Int) < (n : Int) := by omega
                clear hc hff
                go_wp2_with fail
                refine (HSE.out f _).mono ?_
                rintro e14 w14 ⟨rfl, hb14⟩
                have HBA := Lib.hid (HBA.out.trans (hb14.mono (show NA ≤ wr.heap.size by omega)))
                have K13 := Lib.hid (K13.out.below hb14)
                have hO14 := owns_below hO.out hb14 (fun q hq => (hO.out.lt q hq).2)
                have hck14 : w14.cell? ⟨b, o + k, none⟩ = some (.int .i64 f) := by rw [cellB hb14 _ _ hb]; exact hck
                have hz14 := hb14.size
                have hb14' : b < w14.heap.size := by omega
                have K3 := Lib.hid (show BlkR w14 X3 _ from (HBA.out.block X3 n3).trans K3.out)
                clear hck hb14 hO HBw
                by_cases hs : swE f = 0
                · have HRKf := Lib.hid (HRKk.out hs)
                  have HSW2 := Lib.hid (show ∀ j, j < k + 1 → swE (l.getD j 0) = 0 from fun j hj => by
                    rcases Nat.lt_or_ge j k with h | h
                    · exact HSW.out j h
                    · obtain rfl : j = k := by omega
                      rw [← HFF.out]; exact hs)
                  obtain ⟨N0, hN0⟩ : ∃ N, N = NM k := ⟨_, rfl⟩
                  obtain ⟨N1, hN1⟩ : ∃ N, N = NM (k + 1) := ⟨_, rfl⟩
                  have HN1 := Lib.hid hN1
                  rw [← hN0] at K13 HRKf
                  rw [← hN1] at HRKf HLK
                  obtain ⟨a1, a2⟩ := N0
                  obtain ⟨g1', g2'⟩ := N1
                  simp only at K13 HRKf
                  have HT := Lib.hid (show pcells (CL (k + 1)) = pcells (CL k) ++ pcells [(g1', g2')] by rw [HLK.out, pcells_append]; rfl)
                  have c0 := blk_cell K3.out (i := 0) rfl
                  have c1 := blk_cell K3.out (i := 1) rfl
                  have c2 := blk_cell K3.out (i := 2) rfl
                  have c3 := blk_cell K3.out (i := 3) rfl
                  have c4 := blk_cell K3.out (i := 4) rfl
                  have c5 := blk_cell K3.out (i := 5) rfl
                  have l3 := K3.out.lt
                  have m0 := blk_cell K13.out (i := 0) rfl
                  have m1 := blk_cell K13.out (i := 1) rfl
                  have l13 := K13.out.lt
                  have HO14 := Lib.hid hO14
                  clear hN0 hN1 HSW hO14 HK4 HRKk
                  go_wp2_with fail
                  refine wp_region_mixZ (B := w14.heap.size) [(true, 0), (true, 1), (true, 2), (true, 3), (true, 4), (true, 5), (false, 6), (false, 7)] 7 (by kernel_rfl) (by kernel_rfl) ?_; simp only [opsOf, List.filterMap_cons, List.filterMap_nil, List.getElem?_toArray, List.getElem?_cons_zero, List.getElem?_cons_succ, Option.map_some]
                  repeat (refine mixz_head ?_; (show wpQuiet _ _ _ _ (_ :: _) _; go_big_quiet_step (fail)); refine wpQuiet_nil ?_)
                  have HX := Lib.hid ((Below.refl w14.heap.size w14).drew)
                  refine mixz_tail ?_; go_wp2_with fail
                  refine (HRKf.out _).mono ?_
                  rintro e15 w15 ⟨rfl, hb15⟩
                  have HX := Lib.hid (HX.out.trans hb15)
                  clear hb15
                  go_wp2_with fail
                  refine tailL_mk HX.out ?_
                  have hX := HX.out
                  have K13 := Lib.hid (K13.out.below hX)
                  have HO15 := Lib.hid (owns_below HO14.out hX (fun q hq => (HO14.out.lt q hq).2))
                  have HBA := Lib.hid (HBA.out.trans (hX.mono (show NA ≤ w14.heap.size by omega)))
                  have hz15 := hX.size
                  clear c0 c1 c2 c3 c4 c5 l3 m0 m1 l13 hX HX hck14
                  have m0 := blk_cell K13.out (i := 0) rfl
                  have m1 := blk_cell K13.out (i := 1) rfl
                  have f0 := blk_fz K13.out 0
                  have f1' := blk_fz K13.out 1
                  have l13 := K13.out.lt
                  refine mixz_last ?_; go_wp2_with fail
                  refine tailZ_end ?_
                  have n45 : NA < NA + 1 := by omega
                  have hnz : NA + 1 ≤ w15.heap.size := by omega
                  have HO6 := Lib.hid ((ownsRow_setCell_below (ownsRow_setCell_below HO15.out (a := ⟨NA, 0, none⟩) n45 (.int .i64 g1')) (a := ⟨NA, 1, none⟩) n45 (.int .i64 g2')).alloc (Obj.cells #[.int .i64 g1', .int .i64 g2'] 27))
                  have HSL := Lib.hid (show SlR (((w15.setCell ⟨NA, 0, none⟩ (.int .i64 g1')).setCell ⟨NA, 1, none⟩ (.int .i64 g2')).alloc (Obj.cells #[.int .i64 g1', .int .i64 g2'] 27)) (some ⟨w15.heap.size, 0, none⟩) 1 2 (pcells [(g1', g2')]) from SlR.lit ((w15.setCell ⟨NA, 0, none⟩ (.int .i64 g1')).setCell ⟨NA, 1, none⟩ (.int .i64 g2')) _ [.int .i64 g1', .int .i64 g2'] _ _ 1 2 rfl (by simp) rfl (by omega))
                  have HK4 := Lib.hid (show BlkR (((w15.setCell ⟨NA, 0, none⟩ (.int .i64 g1')).setCell ⟨NA, 1, none⟩ (.int .i64 g2')).alloc (Obj.cells #[.int .i64 g1', .int .i64 g2'] 27)) NA (.cells #[.int .i64 g1', .int .i64 g2'] 27) from blk_below (blk_set (blk_set K13.out 0 (.int .i64 g1')) 1 (.int .i64 g2')) ((Below.refl _ _).alloc (Nat.le_refl _) _))
                  have hzW : w15.heap.size + 1 = (((w15.setCell ⟨NA, 0, none⟩ (.int .i64 g1')).setCell ⟨NA, 1, none⟩ (.int .i64 g2')).alloc (Obj.cells #[.int .i64 g1', .int .i64 g2'] 27)).heap.size := by simp
                  have HBW := Lib.hid (show Below NA w13 (((w15.setCell ⟨NA, 0, none⟩ (.int .i64 g1')).setCell ⟨NA, 1, none⟩ (.int .i64 g2')).alloc (Obj.cells #[.int .i64 g1', .int .i64 g2'] 27)) from by have h := (HBA.out.setCell (p := ⟨NA, 0, none⟩) (Nat.le_refl _) (.int .i64 g1')).setCell (p := ⟨NA, 1, none⟩) (Nat.le_refl _) (.int .i64 g2'); exact h.alloc (by simp; omega) _)
                  clear HO14 HO15 K3 HBA HRKf
                  go_wp2_with (at_builtin; refine wpList_append_sl _ rfl _ _ 95 rfl (NA + 1) 27 _ 2 16 Tryz.underlying95 infoMom rfl (by omega) _ _ _ rfl HO6.out _ 1 1 (pcells [(g1', g2')]) rfl HSL.out (by intro u hu; simp [pcells] at hu; rcases hu with rfl | rfl <;> rfl) (by omega) (by omega) (by rw [← hzW]; omega) ?_)
                  intro v2 w2 hown2 hgr2 hb2
                  obtain ⟨av2, cv2, rfl, _, _⟩ := owns_slice hown2
                  rw [← HT.out] at hown2
                  have HO2 := Lib.hid hown2
                  have HB2 := Lib.hid (HBW.out.trans (hb2.mono (by omega)))
                  have HK42 := Lib.hid (show BlkR w2 NA (.cells #[.int .i64 (NM (k + 1)).tap, .int .i64 (NM (k + 1)).wait] 27) from by rw [← HN1.out]; exact (hb2.block NA n45).trans HK4.out)
                  have hz2 : NA + 1 ≤ w2.heap.size := by have := hb2.size; omega
                  clear hown2 hgr2 hb2 HT HO6 HSL HK4 HBW m0 m1 f0 f1' l13
                  go_wp2
                  go_roundw
                  case rel => exact ⟨k + 1, av2, cv2, rfl, by go_num, by omega, HSW2, HO2, HK42, hz2, HB2⟩
                  case measure => simp [intOf]; omega
                · have hec : EC = 2 := HK4.out hs
                  have HR8 := Lib.hid HRC.out.1
                  rw [if_neg (by rw [hec]; decide)] at HR8
                  obtain rfl : nc = 0 := by
                    have := HR8.out
                    simp [pcells] at this
                    omega
                  subst hec
                  have e2 := bne_iff_ne.2 hs
                  have HBw := Lib.hid (HB.out.trans (HBA.out.mono hnw))
                  clear HRC HR8 hO14 HK4 HRKk
                  go_wp2
                  go_ret
                  exact ⟨ret_bool (by simp), HBw.out⟩
              · obtain rfl : n = k := by omega
                have hec : EC = 0 := HC5.out (by trivial) (by trivial) (by omega) (fun j hj => HSW.out j hj)
                have hrc := HRC.out
                rw [if_pos hec] at hrc
                subst hec
                have HRC2 := Lib.hid (PairsR.below hrc (show Below w13.heap.size w13 wr by rw [← HNA.out]; exact HBA.out))
                have HW2 := Lib.hid (show PairsR wr av n (CL n) from SlR.of_owns hO.out)
                clear hrc HRC hO
                go_wp2_with fail
                refine (sameM_any (CL n) (CL n) ac av nc cc n cv wr HRC2.out HW2.out).mono ?_
                rintro e15 w15 ⟨rfl, m15, rfl⟩
                go_wp2
                go_ret
                exact ⟨ret_bool (by simp), by have := HBw.out; (repeat' (first | (with_reducible exact Below.refl _ _) | (with_reducible assumption) | (with_reducible refine Below.drewN ?_ _) | (with_reducible refine Below.alloc ?_ ?_ _) | (with_reducible refine Below.drew ?_) | (with_reducible refine Below.setCell ?_ ?_ _) | (with_reducible refine Below.step (by assumption) ?_ ?_) | (with_reducible exact And.left (by assumption)) | go_size))⟩
        · obtain rfl : E = E2 := HE2'.out.trans (fe1 h2)
          obtain rfl : EC = E := HC22.out h2
          obtain rfl : Q1 = 0 := by rw [HQ1.out, if_neg h2]
          obtain rfl : Q2 = 0 := by rw [HQ2.out, if_neg h2]
          obtain rfl : nc = 0 := by
            have h := HRC.out
            rw [if_neg h2] at h
            have := h.1
            simp [pcells] at this
            omega
          have e1 := bne_iff_ne.2 h2
          have q0 := blk_cell K7.out (i := 0) rfl
          have q1 := blk_cell K7.out (i := 1) rfl
          have l7 := K7.out.lt
          clear HQ1 HQ2 HRC
          go_wp2
          go_ret
          exact ⟨ret_bool (by simp), HB.out⟩
      · obtain rfl : E = E1 := HE.out.trans (fe1 h1)
        obtain rfl : EC = E := HC1.out h1
        obtain rfl : Q1 = 0 := by rw [HQ1.out, if_neg h1]
        obtain rfl : Q2 = 0 := by rw [HQ2.out, if_neg h1]
        obtain rfl : nc = 0 := by
          have h := HRC.out
          rw [if_neg h1] at h
          have := h.1
          simp [pcells] at this
          omega
        have e1 := bne_iff_ne.2 h1
        have q0 := blk_cell K7.out (i := 0) rfl
        have q1 := blk_cell K7.out (i := 1) rfl
        have l7 := K7.out.lt
        clear HQ1 HQ2 HRC
        go_wp2
        go_ret
        exact ⟨ret_bool (by simp), HB.out⟩
    · have f1 : (60 : Int) < (n : Int) := by omega
      have f2 : ¬ (n : Int) ≤ 200 := by omega
      go_wp2_with fail
      refine (HTK.out _).mono ?_
      rintro e5 w5 ⟨rfl, hb5⟩
      clear c0 c1 c2 c3 c4 c5 l3 d0 d1 d2 l4
      have K3 := Lib.hid (K3.out.below hb5)
      have K4 := Lib.hid (K4.out.below hb5)
      have HB := Lib.hid (HB.out.trans (hb5.mono HB.out.size))
      clear hb5 HTK
      obtain ⟨Q1, hQ1⟩ : ∃ Q, Q = (if E = 0 then (⟨T1, T2⟩ : Mom) else ⟨0, 0⟩).tap := ⟨_, rfl⟩
      obtain ⟨Q2, hQ2⟩ : ∃ Q, Q = (if E = 0 then (⟨T1, T2⟩ : Mom) else ⟨0, 0⟩).wait := ⟨_, rfl⟩
      rw [← hQ1, ← hQ2]
      have HQ1 := Lib.hid hQ1
      have HQ2 := Lib.hid hQ2
      clear hQ1 hQ2
      obtain ⟨w6, hW6⟩ : ∃ w6, w6 = w5.alloc (Obj.cells #[.int .i64 Q1, .int .i64 Q2] 27) := ⟨_, rfl⟩
      have hb6 : Below w5.heap.size w5 w6 := by rw [hW6]; (repeat' (first | (with_reducible exact Below.refl _ _) | (with_reducible assumption) | (with_reducible refine Below.drewN ?_ _) | (with_reducible refine Below.alloc ?_ ?_ _) | (with_reducible refine Below.drew ?_) | (with_reducible refine Below.setCell ?_ ?_ _) | (with_reducible refine Below.step (by assumption) ?_ ?_) | (with_reducible exact And.left (by assumption)) | go_size))
      have k7 : BlkR w6 w5.heap.size (.cells #[.int .i64 Q1, .int .i64 Q2] 27) := by show w6.heap[w5.heap.size]? = _; rw [hW6]; exact heap_alloc_new _ _
      have K7 := Lib.hid k7
      have HW6 := Lib.hid hW6
      have K3 := Lib.hid (K3.out.below hb6)
      have K4 := Lib.hid (K4.out.below hb6)
      have HB := Lib.hid (HB.out.trans (hb6.mono HB.out.size))
      clear hb6 k7 hW6
      go_wp2_with fail
      rw [← HW6.out]
      obtain ⟨X7, hX7⟩ : ∃ X, X = w5.heap.size := ⟨_, rfl⟩
      rw [← hX7] at K7
      simp only [← hX7]
      clear hX7 HW6
      have c0 := blk_cell K3.out (i := 0) rfl
      have c1 := blk_cell K3.out (i := 1) rfl
      have c2 := blk_cell K3.out (i := 2) rfl
      have c3 := blk_cell K3.out (i := 3) rfl
      have c4 := blk_cell K3.out (i := 4) rfl
      have c5 := blk_cell K3.out (i := 5) rfl
      have l3 := K3.out.lt
      have d0 := blk_cell K4.out (i := 0) rfl
      have d1 := blk_cell K4.out (i := 1) rfl
      have d2 := blk_cell K4.out (i := 2) rfl
      have l4 := K4.out.lt
      refine wp_region_laterM (B := w6.heap.size) [(true, 0), (true, 1), (true, 2), (true, 3), (false, 4), (false, 5), (true, 6), (true, 7), (true, 8), (true, 9), (true, 10)] (by kernel_rfl) (by kernel_rfl) ?_; simp only [opsOf, List.filterMap_cons, List.filterMap_nil, List.getElem?_toArray, List.getElem?_cons_zero, List.getElem?_cons_succ, Option.map_some]
      repeat (refine mix_head ?_; (show wpQuiet _ _ _ _ (_ :: _) _; go_big_quiet_step (fail)); refine wpQuiet_nil ?_)
      have HX := Lib.hid ((Below.refl w6.heap.size w6).drew)
      refine mix_tail ?_; go_wp2_with fail
      refine (HCI2.out _ (HB.out.trans (HX.out.mono HB.out.size))).mono ?_
      rintro e7 w7 ⟨a7, c7, rfl, hb7, ho7⟩
      have HX := Lib.hid (HX.out.trans hb7)
      have HL7 := Lib.hid (SlR.of_owns ho7)
      clear hb7 ho7
      go_wp2_with fail
      refine tailL_mk HX.out ?_
      repeat (refine mix_head ?_; (show wpQuiet _ _ _ _ (_ :: _) _; go_big_quiet_step (fail)); refine wpQuiet_nil ?_)
      refine mix_tail ?_; go_wp2_with fail
      refine (HCO.out a7 c7 _ HL7.out).mono ?_
      rintro e8 w8 ⟨ac, nc, cc, rfl, hb8, hr8⟩
      have HX := Lib.hid (HX.out.trans (hb8.mono HX.out.size))
      have HRC := Lib.hid hr8
      clear hb8 hr8 HL7 HCO HCI2
      go_wp2_with fail
      refine tailL_mk HX.out ?_
      repeat (refine mix_head ?_; (show wpQuiet _ _ _ _ (_ :: _) _; go_big_quiet_step (fail)); refine wpQuiet_nil ?_)
      refine mix_nil ?_
      have hbx := HX.out
      clear c0 c1 c2 c3 c4 c5 l3 d0 d1 d2 l4
      have K3 := Lib.hid (K3.out.below hbx)
      have K4 := Lib.hid (K4.out.below hbx)
      have K7 := Lib.hid (K7.out.below hbx)
      have HB := Lib.hid (HB.out.trans (hbx.mono HB.out.size))
      clear hbx HX
      have c0 := blk_cell K3.out (i := 0) rfl
      have c1 := blk_cell K3.out (i := 1) rfl
      have c2 := blk_cell K3.out (i := 2) rfl
      have c3 := blk_cell K3.out (i := 3) rfl
      have c4 := blk_cell K3.out (i := 4) rfl
      have c5 := blk_cell K3.out (i := 5) rfl
      have l3 := K3.out.lt
      have d0 := blk_cell K4.out (i := 0) rfl
      have d1 := blk_cell K4.out (i := 1) rfl
      have d2 := blk_cell K4.out (i := 2) rfl
      have l4 := K4.out.lt
      go_wp2_with fail
      refine (HRE.out _).mono ?_
      rintro e9 w9 ⟨rfl, hb9⟩
      clear c0 c1 c2 c3 c4 c5 l3 d0 d1 d2 l4
      have K3 := Lib.hid (K3.out.below hb9)
      have K4 := Lib.hid (K4.out.below hb9)
      have K7 := Lib.hid (K7.out.below hb9)
      have HB := Lib.hid (HB.out.trans (hb9.mono HB.out.size))
      have HRC := Lib.hid (PairsR.below HRC.out hb9)
      clear hb9
      have c0 := blk_cell K3.out (i := 0) rfl
      have c1 := blk_cell K3.out (i := 1) rfl
      have c2 := blk_cell K3.out (i := 2) rfl
      have c3 := blk_cell K3.out (i := 3) rfl
      have c4 := blk_cell K3.out (i := 4) rfl
      have c5 := blk_cell K3.out (i := 5) rfl
      have l3 := K3.out.lt
      have d0 := blk_cell K4.out (i := 0) rfl
      have d1 := blk_cell K4.out (i := 1) rfl
      have d2 := blk_cell K4.out (i := 2) rfl
      have l4 := K4.out.lt
      go_wp2_with fail
      refine (HCR.out _).mono ?_
      rintro e10 w10 ⟨rfl, hb10⟩
      clear c0 c1 c2 c3 c4 c5 l3 d0 d1 d2 l4
      have K3 := Lib.hid (K3.out.below hb10)
      have K4 := Lib.hid (K4.out.below hb10)
      have K7 := Lib.hid (K7.out.below hb10)
      have HB := Lib.hid (HB.out.trans (hb10.mono HB.out.size))
      have HRC := Lib.hid (PairsR.below HRC.out hb10)
      clear hb10
      have c0 := blk_cell K3.out (i := 0) rfl
      have c1 := blk_cell K3.out (i := 1) rfl
      have c2 := blk_cell K3.out (i := 2) rfl
      have c3 := blk_cell K3.out (i := 3) rfl
      have c4 := blk_cell K3.out (i := 4) rfl
      have c5 := blk_cell K3.out (i := 5) rfl
      have l3 := K3.out.lt
      have d0 := blk_cell K4.out (i := 0) rfl
      have d1 := blk_cell K4.out (i := 1) rfl
      have d2 := blk_cell K4.out (i := 2) rfl
      have l4 := K4.out.lt
      clear HRE HCR
      have x1 : (E1 != E1) = false := by simp
      by_cases h1 : E1 = 0
      · subst h1
        have HME2 := Lib.hid (HME.out (by trivial))
        have HE2' := Lib.hid (HE.out.trans fe0)
        have HC22 := Lib.hid (fun h => HC2.out (by trivial) h)
        clear HME HC2
        go_wp2_with fail
        refine (HME2.out _).mono ?_
        rintro e11 w11 ⟨rfl, hb11⟩
        clear c0 c1 c2 c3 c4 c5 l3 d0 d1 d2 l4
        have K3 := Lib.hid (K3.out.below hb11)
        have K4 := Lib.hid (K4.out.below hb11)
        have K7 := Lib.hid (K7.out.below hb11)
        have HB := Lib.hid (HB.out.trans (hb11.mono HB.out.size))
        have HRC := Lib.hid (PairsR.below HRC.out hb11)
        clear hb11
        have c0 := blk_cell K3.out (i := 0) rfl
        have c1 := blk_cell K3.out (i := 1) rfl
        have c2 := blk_cell K3.out (i := 2) rfl
        have c3 := blk_cell K3.out (i := 3) rfl
        have c4 := blk_cell K3.out (i := 4) rfl
        have c5 := blk_cell K3.out (i := 5) rfl
        have l3 := K3.out.lt
        have d0 := blk_cell K4.out (i := 0) rfl
        have d1 := blk_cell K4.out (i := 1) rfl
        have d2 := blk_cell K4.out (i := 2) rfl
        have l4 := K4.out.lt
        clear x1
        by_cases h2 : E2 = 0
        · subst h2
          have HE3' := Lib.hid (HE2'.out.trans fe0)
          go_wp2_with fail
          refine (HSE.out d _).mono ?_
          rintro e12 w12 ⟨rfl, hb12⟩
          clear c0 c1 c2 c3 c4 c5 l3 d0 d1 d2 l4
          have K3 := Lib.hid (K3.out.below hb12)
          have K4 := Lib.hid (K4.out.below hb12)
          have K7 := Lib.hid (K7.out.below hb12)
          have HB := Lib.hid (HB.out.trans (hb12.mono HB.out.size))
          have HRC := Lib.hid (PairsR.below HRC.out hb12)
          clear hb12
          have c0 := blk_cell K3.out (i := 0) rfl
          have c1 := blk_cell K3.out (i := 1) rfl
          have c2 := blk_cell K3.out (i := 2) rfl
          have c3 := blk_cell K3.out (i := 3) rfl
          have c4 := blk_cell K3.out (i := 4) rfl
          have c5 := blk_cell K3.out (i := 5) rfl
          have l3 := K3.out.lt
          have d0 := blk_cell K4.out (i := 0) rfl
          have d1 := blk_cell K4.out (i := 1) rfl
          have d2 := blk_cell K4.out (i := 2) rfl
          have l4 := K4.out.lt
          rw [← HE3.out]
          by_cases h3 : E3 = 0
          · subst h3
            obtain rfl : E = 0 := HE3'.out
            obtain rfl : Q1 = T1 := by rw [HQ1.out, if_pos rfl]
            obtain rfl : Q2 = T2 := by rw [HQ2.out, if_pos rfl]
            have HRG2 := Lib.hid (HRG.out (by trivial) (by trivial) (by trivial))
            clear HRG
            have q0 := blk_cell K7.out (i := 0) rfl
            have q1 := blk_cell K7.out (i := 1) rfl
            have l7 := K7.out.lt
            go_wp2_with fail
            refine later_all (by kernel_rfl) (by kernel_rfl) ?_; repeat go_big_quiet_step(first | with_reducible exact calls_later (HRG2.out _))
            refine wpQuiet_nil ?_; intro w13 hb13
            clear q0 q1 l7
            clear c0 c1 c2 c3 c4 c5 l3 d0 d1 d2 l4
            have K3 := Lib.hid (K3.out.below hb13)
            have K4 := Lib.hid (K4.out.below hb13)
            have K7 := Lib.hid (K7.out.below hb13)
            have HB := Lib.hid (HB.out.trans (hb13.mono HB.out.size))
            have HRC := Lib.hid (PairsR.below HRC.out hb13)
            clear hb13
            have c0 := blk_cell K3.out (i := 0) rfl
            have c1 := blk_cell K3.out (i := 1) rfl
            have c2 := blk_cell K3.out (i := 2) rfl
            have c3 := blk_cell K3.out (i := 3) rfl
            have c4 := blk_cell K3.out (i := 4) rfl
            have c5 := blk_cell K3.out (i := 5) rfl
            have l3 := K3.out.lt
            have d0 := blk_cell K4.out (i := 0) rfl
            have d1 := blk_cell K4.out (i := 1) rfl
            have d2 := blk_cell K4.out (i := 2) rfl
            have l4 := K4.out.lt
            have hec : EC = 8 := HC3.out (by trivial) (by trivial) g1
            have HR8 := Lib.hid HRC.out.1
            rw [if_neg (by rw [hec]; decide)] at HR8
            obtain rfl : nc = 0 := by
              have := HR8.out
              simp [pcells] at this
              omega
            subst hec
            clear HRC HR8
            go_wp2
            go_ret
            exact ⟨ret_bool (by simp), HB.out⟩
          · obtain rfl : E = E3 := HE3'.out.trans (fe1 h3)
            obtain rfl : Q1 = 0 := by rw [HQ1.out, if_neg h3]
            obtain rfl : Q2 = 0 := by rw [HQ2.out, if_neg h3]
            have e1 := bne_iff_ne.2 h3
            have x8 : (E == 0) = false := by simpa using h3
            have q0 := blk_cell K7.out (i := 0) rfl
            have q1 := blk_cell K7.out (i := 1) rfl
            have l7 := K7.out.lt
            clear h3 HRG HQ1 HQ2
            go_wp2_with fail
            have x9 : (E != E) = false := by simp
            refine later_all (by kernel_rfl) (by kernel_rfl) ?_; repeat go_big_quiet_step(fail)
            refine wpQuiet_nil ?_; intro w13 hb13
            clear q0 q1 l7
            clear c0 c1 c2 c3 c4 c5 l3 d0 d1 d2 l4
            have K3 := Lib.hid (K3.out.below hb13)
            have K4 := Lib.hid (K4.out.below hb13)
            have K7 := Lib.hid (K7.out.below hb13)
            have HB := Lib.hid (HB.out.trans (hb13.mono HB.out.size))
            have HRC := Lib.hid (PairsR.below HRC.out hb13)
            clear hb13
            have c0 := blk_cell K3.out (i := 0) rfl
            have c1 := blk_cell K3.out (i := 1) rfl
            have c2 := blk_cell K3.out (i := 2) rfl
            have c3 := blk_cell K3.out (i := 3) rfl
            have c4 := blk_cell K3.out (i := 4) rfl
            have c5 := blk_cell K3.out (i := 5) rfl
            have l3 := K3.out.lt
            have d0 := blk_cell K4.out (i := 0) rfl
            have d1 := blk_cell K4.out (i := 1) rfl
            have d2 := blk_cell K4.out (i := 2) rfl
            have l4 := K4.out.lt
            have hec : EC = 8 := HC3.out (by trivial) (by trivial) g1
            have HR8 := Lib.hid HRC.out.1
            rw [if_neg (by rw [hec]; decide)] at HR8
            obtain rfl : nc = 0 := by
              have := HR8.out
              simp [pcells] at this
              omega
            subst hec
            clear HRC HR8
            go_wp2
            go_ret
            exact ⟨ret_bool (by simp), HB.out⟩
        · obtain rfl : E = E2 := HE2'.out.trans (fe1 h2)
          obtain rfl : EC = E := HC22.out h2
          obtain rfl : Q1 = 0 := by rw [HQ1.out, if_neg h2]
          obtain rfl : Q2 = 0 := by rw [HQ2.out, if_neg h2]
          obtain rfl : nc = 0 := by
            have h := HRC.out
            rw [if_neg h2] at h
            have := h.1
            simp [pcells] at this
            omega
          have e1 := bne_iff_ne.2 h2
          have q0 := blk_cell K7.out (i := 0) rfl
          have q1 := blk_cell K7.out (i := 1) rfl
          have l7 := K7.out.lt
          clear HQ1 HQ2 HRC
          go_wp2
          go_ret
          exact ⟨ret_bool (by simp), HB.out⟩
      · obtain rfl : E = E1 := HE.out.trans (fe1 h1)
        obtain rfl : EC = E := HC1.out h1
        obtain rfl : Q1 = 0 := by rw [HQ1.out, if_neg h1]
        obtain rfl : Q2 = 0 := by rw [HQ2.out, if_neg h1]
        obtain rfl : nc = 0 := by
          have h := HRC.out
          rw [if_neg h1] at h
          have := h.1
          simp [pcells] at this
          omega
        have e1 := bne_iff_ne.2 h1
        have q0 := blk_cell K7.out (i := 0) rfl
        have q1 := blk_cell K7.out (i := 1) rfl
        have l7 := K7.out.lt
        clear HQ1 HQ2 HRC
        go_wp2
        go_ret
        exact ⟨ret_bool (by simp), HB.out⟩
end Go.Proofs.YtidboecjllaofaaGreat
