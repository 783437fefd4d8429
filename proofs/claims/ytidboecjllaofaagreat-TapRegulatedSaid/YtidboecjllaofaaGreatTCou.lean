import Derived.Test.YtidboecjllaofaaGreatMB
import Derived.Test.YtidboecjllaofaaGreatTReg1
import Derived.Test.YtidboecjllaofaaGreatTRst
/- Regulators: the exported tick, and the course of given disturbances. The program. -/
namespace Go.Proofs.YtidboecjllaofaaGreat
open Go.RowKit Go.Shelf
set_option linter.unusedVariables false
set_option linter.unusedSimpArgs false

theorem swing_same (d : Int) (w : World) : Calls Tryz.prog 129 #[.int .i64 d] w fun e' w' => e' = .returned (.int .i64 (swE d)) ∧ w = w' := by
  have HS := Lib.hid (fun (W : World) => t_small_any d 10000 W (by omega) (by omega))
  unfold swE
  generalize wi d (-10000) 10000 = b at *
  go_enter Tryz.func129, Tryz.ntmps129
  go_wp2_with fail
  refine (HS.out _).mono ?_
  rintro e5 w5 ⟨rfl, rfl⟩
  go_wp2_with fail
  refine (t_unless_any _ _ _).mono ?_
  rintro e6 w6 ⟨rfl, rfl⟩
  go_wp2
  go_ret
  exact ⟨rfl, rfl⟩
theorem cou1_any (x : Int) (w : World) : Calls Tryz.prog 128 #[.int .i64 x] w fun e w' => e = .returned (.bool (swE x != 0)) ∧ w = w' := by
  have HS := Lib.hid (swing_same x w)
  generalize swE x = E at *
  go_enter Tryz.func128, Tryz.ntmps128
  go_wp2_with fail
  refine HS.out.mono ?_
  rintro e5 w5 ⟨rfl, rfl⟩
  go_wp2
  go_ret
  exact ⟨rfl, rfl⟩
theorem cf_cou1 (args : Array Value) (w : World) : (callFunc 128 args).run Tryz.prog w = .ok (.enter 128 args) w := by kernel_rfl
/-- The errors of a course. -/
def couE (r : Reg) (m : Mom) (l : List Int) : Int := firstErr [regE r, momX r m, unl (decide ((l.length : Int) ≤ 200)) 8, unl (!(l.any (fun x => swE x != 0))) 2]
def nowM (r : Reg) (m : Mom) (l : List Int) : Nat → Mom
  | 0 => m
  | k + 1 => tick r (l.getD k 0) (nowM r m l k)
def mPr (m : Mom) : Int × Int := (m.tap, m.wait)
def couL (r : Reg) (m : Mom) (l : List Int) (k : Nat) : List (Int × Int) := (List.range k).map (fun j => mPr (nowM r m l (j + 1)))
theorem couL_succ (r : Reg) (m : Mom) (l : List Int) (k : Nat) : couL r m l (k + 1) = couL r m l k ++ [mPr (nowM r m l (k + 1))] := by
  unfold couL
  rw [List.range_succ, List.map_append]; rfl
theorem couL_len (r : Reg) (m : Mom) (l : List Int) (k : Nat) : (couL r m l k).length = k := by unfold couL; simp
theorem nowM_ok {r : Reg} (hr : RegV r) {m : Mom} (hm : MomV r m) (l : List Int) : ∀ k, MomV r (nowM r m l k)
  | 0 => hm
  | k + 1 => tick_valid hr _ _ (nowM_ok hr hm l k)
theorem couE_zero {r : Reg} {m : Mom} {l : List Int} (h : couE r m l = 0) : RegV r ∧ MomV r m ∧ l.length ≤ 200 ∧ ∀ x ∈ l, -10000 ≤ x ∧ x ≤ 10000 := by
  unfold couE at h
  rw [firstErr_zero', firstErr_zero', firstErr_zero', firstErr_zero', unl_zero' (by decide), unl_zero' (by decide), decide_eq_true_eq, regE_zero] at h
  obtain ⟨h1, h2, h3, h4, _⟩ := h
  rw [momX_eq m h1, momE_zero] at h2
  refine ⟨h1, h2, by omega, fun x hx => ?_⟩
  rw [Bool.not_eq_true', List.any_eq_false] at h4
  have := h4 x hx
  rw [bne_iff_ne, ne_eq, Classical.not_not, swE_zero] at this
  exact this
theorem rgdE_zero' {r : Reg} {m : Mom} {d : Int} (h : rgdE r m d = 0) : RegV r ∧ MomV r m ∧ -10000 ≤ d ∧ d ≤ 10000 := by
  unfold rgdE at h
  rw [firstErr_zero', firstErr_zero', firstErr_zero', regE_zero, momE_zero, swE_zero] at h
  exact ⟨h.1, h.2.1, h.2.2.1⟩
theorem infoMom : (Tryz.prog.info? 27).map (fun i => (i.zero, i.size, i.bytes)) = some (some (.agg #[.int .i64 0, .int .i64 0]), 2, 16) := by kernel_rfl
set_option maxHeartbeats 1000000 in
set_option maxRecDepth 100000 in
theorem regulatedX_any (r : Reg) (m : Mom) (d : Int) (w : World) :
    Calls Tryz.prog 51 #[.agg #[.int .i64 r.tgt, .int .i64 r.band, .int .i64 r.dly, .int .i64 r.stp, .int .i64 r.lo, .int .i64 r.hi], .agg #[.int .i64 m.tap, .int .i64 m.wait], .int .i64 d] w
      fun e' w' => e' = .returned (.tuple #[.agg #[.int .i64 (if rgdE r m d = 0 then tick r d m else ⟨0, 0⟩).tap, .int .i64 (if rgdE r m d = 0 then tick r d m else ⟨0, 0⟩).wait], .int .i64 (rgdE r m d)]) ∧ Below w.heap.size w w' := by
  have HE := Lib.hid (fun (W : World) => regulated_any r m d W)
  have HT := Lib.hid (fun (h : rgdE r m d = 0) (W : World) => ticked_any r m d W (rgdE_zero' h).1 (rgdE_zero' h).2.1 (rgdE_zero' h).2.2)
  generalize tick r d m = T at *
  generalize rgdE r m d = E at *
  obtain ⟨tgt, band, dly, stp, lo, hi⟩ := r
  obtain ⟨tap, wait⟩ := m
  obtain ⟨t1, t2⟩ := T
  simp only at HE HT ⊢
  go_enter Tryz.func51, Tryz.ntmps51
  go_wp2_with fail
  obtain ⟨w3, hW3⟩ : ∃ w3, w3 = ((w.alloc (Obj.cells #[.int .i64 tgt, .int .i64 band, .int .i64 dly, .int .i64 stp, .int .i64 lo, .int .i64 hi] 25)).alloc (Obj.cells #[.int .i64 tap, .int .i64 wait] 27)).alloc (Obj.cells #[.int .i64 0, .int .i64 0] 27) := ⟨_, rfl⟩
  rw [← hW3]
  have hb3 : Below w.heap.size w w3 := by rw [hW3]; (repeat' (first | (with_reducible exact Below.refl _ _) | (with_reducible assumption) | (with_reducible refine Below.drewN ?_ _) | (with_reducible refine Below.alloc ?_ ?_ _) | (with_reducible refine Below.drew ?_) | (with_reducible refine Below.setCell ?_ ?_ _) | (with_reducible refine Below.step (by assumption) ?_ ?_) | (with_reducible exact And.left (by assumption)) | go_size))
  have k3 : BlkR w3 w.heap.size (.cells #[.int .i64 tgt, .int .i64 band, .int .i64 dly, .int .i64 stp, .int .i64 lo, .int .i64 hi] 25) := by
    show w3.heap[w.heap.size]? = _
    rw [hW3, Below.heap_alloc _ _ _ (by first | (simp; done) | (simp; omega)), Below.heap_alloc _ _ _ (by simp)]
    exact heap_alloc_new _ _
  have k4 : BlkR w3 (w.heap.size + 1) (.cells #[.int .i64 tap, .int .i64 wait] 27) := by
    show w3.heap[w.heap.size + 1]? = _
    rw [hW3, Below.heap_alloc _ _ _ (by simp)]
    have := heap_alloc_new (w.alloc (Obj.cells #[.int .i64 tgt, .int .i64 band, .int .i64 dly, .int .i64 stp, .int .i64 lo, .int .i64 hi] 25)) (Obj.cells #[.int .i64 tap, .int .i64 wait] 27)
    simpa using this
  have k6 : BlkR w3 (w.heap.size + 1 + 1) (.cells #[.int .i64 0, .int .i64 0] 27) := by
    show w3.heap[w.heap.size + 1 + 1]? = _
    rw [hW3]
    have := heap_alloc_new ((w.alloc (Obj.cells #[.int .i64 tgt, .int .i64 band, .int .i64 dly, .int .i64 stp, .int .i64 lo, .int .i64 hi] 25)).alloc (Obj.cells #[.int .i64 tap, .int .i64 wait] 27)) (Obj.cells #[.int .i64 0, .int .i64 0] 27)
    simpa using this
  obtain ⟨X3, hX3⟩ : ∃ X, X = w.heap.size := ⟨_, rfl⟩
  obtain ⟨X4, hX4⟩ : ∃ X, X = w.heap.size + 1 := ⟨_, rfl⟩
  obtain ⟨X6, hX6⟩ : ∃ X, X = w.heap.size + 1 + 1 := ⟨_, rfl⟩
  rw [← hX6] at k6
  rw [← hX4] at k4
  rw [← hX3] at k3
  simp only [← hX6]
  simp only [← hX4]
  simp only [← hX3]
  have hw6 : w.heap.size ≤ X6 := by omega
  clear hW3 hX3 hX4 hX6
  refine (HE.out w3).mono ?_
  rintro e5 w5 ⟨rfl, hb5⟩
  have K3 := Lib.hid (k3.below hb5)
  have K4 := Lib.hid (k4.below hb5)
  have K6 := Lib.hid (k6.below hb5)
  have HB := Lib.hid (hb3.trans (hb5.mono hb3.size))
  clear k3 k4 k6 hb3 hb5 HE
  by_cases h0 : E = 0
  · subst h0
    have HTW := Lib.hid (HT.out rfl w5)
    have c0 := blk_cell K3.out (i := 0) rfl
    have c1 := blk_cell K3.out (i := 1) rfl
    have c2 := blk_cell K3.out (i := 2) rfl
    have c3 := blk_cell K3.out (i := 3) rfl
    have c4 := blk_cell K3.out (i := 4) rfl
    have c5 := blk_cell K3.out (i := 5) rfl
    have l3 := K3.out.lt
    have m0 := blk_cell K4.out (i := 0) rfl
    have m1 := blk_cell K4.out (i := 1) rfl
    have l4 := K4.out.lt
    clear HT
    go_wp2_with fail
    refine HTW.out.mono ?_
    rintro e7 w7 ⟨rfl, hb7⟩
    have K6 := Lib.hid (K6.out.below hb7)
    have HB := Lib.hid (HB.out.trans (hb7.mono HB.out.size))
    have d0 := blk_cell K6.out (i := 0) rfl
    have d1 := blk_cell K6.out (i := 1) rfl
    have g0 := blk_fz K6.out 0
    have g1 := blk_fz K6.out 1
    have l6 := K6.out.lt
    clear c0 c1 c2 c3 c4 c5 l3 m0 m1 l4 hb7
    go_wp2
    have kw := blk_set (blk_set K6.out 0 (.int .i64 t1)) 1 (.int .i64 t2)
    have r0 := blk_cell kw (i := 0) rfl
    have r1 := blk_cell kw (i := 1) rfl
    refine bodyPost_ret (v := .tuple #[.agg #[.int .i64 t1, .int .i64 t2], .int .i64 0]) (by simp [results, Tryz.results51, go_sem, r0, r1]) rfl ⟨by simp, (HB.out.setCell hw6 _).setCell hw6 _⟩
  · have e1 := bne_iff_ne.2 h0
    have d0 := blk_cell K6.out (i := 0) rfl
    have d1 := blk_cell K6.out (i := 1) rfl
    have g0 := blk_fz K6.out 0
    have g1 := blk_fz K6.out 1
    have l6 := K6.out.lt
    have HN := Lib.hid h0
    clear h0 HT
    go_wp2
    have kw := blk_set (blk_set K6.out 0 (.int .i64 0)) 1 (.int .i64 0)
    have r0 := blk_cell kw (i := 0) rfl
    have r1 := blk_cell kw (i := 1) rfl
    refine bodyPost_ret (v := .tuple #[.agg #[.int .i64 0, .int .i64 0], .int .i64 E]) (by simp [results, Tryz.results51, go_sem, r0, r1]) rfl ⟨rfl, (HB.out.setCell hw6 _).setCell hw6 _⟩
set_option maxHeartbeats 2000000 in
set_option maxRecDepth 100000 in
theorem courseOf_any (r : Reg) (m : Mom) (l : List Int) (a : Option Addr) (n c : Nat) (w : World) (hl : IntsR w a n l) :
    Calls Tryz.prog 52 #[.agg #[.int .i64 r.tgt, .int .i64 r.band, .int .i64 r.dly, .int .i64 r.stp, .int .i64 r.lo, .int .i64 r.hi], .agg #[.int .i64 m.tap, .int .i64 m.wait], .slice a n c] w
      fun e' w' => ∃ a' n' c', e' = .returned (.tuple #[.slice a' n' c', .int .i64 (couE r m l)]) ∧ Below w.heap.size w w' ∧ PairsR w' a' n' (if couE r m l = 0 then couL r m l n else []) := by
  have HI := Lib.hid (fun (W : World) (hb : Below w.heap.size w W) => hl.below hb)
  have hnn := hl.small
  have HCO := Lib.hid (fun (W : World) (hb : Below w.heap.size w W) => containsInts_any 128 (fun x => swE x != 0) cf_cou1 cou1_any l a n c W (hl.below hb))
  have HC := Lib.hid (fun (W : World) => checkReg_any r W)
  have HMM := Lib.hid (fun (W : World) => moment_any r m W)
  have HU8 := Lib.hid (fun (W : World) => t_unless_any (decide ((n : Int) ≤ 200)) 8 W)
  have HE := Lib.hid (show couE r m l = firstErr [regE r, momX r m, unl (decide ((n : Int) ≤ 200)) 8, unl (!(l.any (fun x => swE x != 0))) 2] from by unfold couE; rw [hl.len])
  have HTK := Lib.hid (fun (h : couE r m l = 0) (k : Nat) (hk : k < n) (W : World) => ticked_any r (nowM r m l k) (l.getD k 0) W (couE_zero h).1 (nowM_ok (couE_zero h).1 (couE_zero h).2.1 l k) ((couE_zero h).2.2.2 _ (getD_mem (by rw [hl.len]; exact hk))))
  have HZ := Lib.hid (fun (h : couE r m l = 0) => show n ≤ 200 from by have := (couE_zero h).2.2.1; rw [hl.len] at this; exact this)
  have HLS := Lib.hid (fun k => couL_succ r m l k)
  have hL0 : couL r m l 0 = [] := rfl
  have hS0 : nowM r m l 0 = m := rfl
  have hSS : ∀ k, tick r (l.getD k 0) (nowM r m l k) = nowM r m l (k + 1) := fun _ => rfl
  simp only [hSS] at HTK
  have HLE := Lib.hid (fun k => couL_len r m l k)
  generalize (l.any (fun x => swE x != 0)) = OD at *
  generalize couL r m l = CL at *
  generalize nowM r m l = NM at *
  generalize couE r m l = E at *
  generalize regE r = E1 at *
  generalize momX r m = E2 at *
  obtain ⟨tgt, band, dly, stp, lo, hi⟩ := r
  obtain ⟨tap, wait⟩ := m
  simp only at HC HMM HTK hS0 ⊢
  have HS0 := Lib.hid hS0
  have HL0 := Lib.hid hL0
  clear hl hSS hS0 hL0
  go_enter Tryz.func52, Tryz.ntmps52
  go_wp2_with fail
  obtain ⟨w3, hW3⟩ : ∃ w3, w3 = (w.alloc (Obj.cells #[.int .i64 tgt, .int .i64 band, .int .i64 dly, .int .i64 stp, .int .i64 lo, .int .i64 hi] 25)).alloc (Obj.cells #[.int .i64 tap, .int .i64 wait] 27) := ⟨_, rfl⟩
  rw [← hW3]
  have hb3 : Below w.heap.size w w3 := by rw [hW3]; (repeat' (first | (with_reducible exact Below.refl _ _) | (with_reducible assumption) | (with_reducible refine Below.drewN ?_ _) | (with_reducible refine Below.alloc ?_ ?_ _) | (with_reducible refine Below.drew ?_) | (with_reducible refine Below.setCell ?_ ?_ _) | (with_reducible refine Below.step (by assumption) ?_ ?_) | (with_reducible exact And.left (by assumption)) | go_size))
  have k3 : BlkR w3 w.heap.size (.cells #[.int .i64 tgt, .int .i64 band, .int .i64 dly, .int .i64 stp, .int .i64 lo, .int .i64 hi] 25) := by
    show w3.heap[w.heap.size]? = _
    rw [hW3, Below.heap_alloc _ _ _ (by simp)]
    exact heap_alloc_new _ _
  have k4 : BlkR w3 (w.heap.size + 1) (.cells #[.int .i64 tap, .int .i64 wait] 27) := by
    show w3.heap[w.heap.size + 1]? = _
    rw [hW3]
    have := heap_alloc_new (w.alloc (Obj.cells #[.int .i64 tgt, .int .i64 band, .int .i64 dly, .int .i64 stp, .int .i64 lo, .int .i64 hi] 25)) (Obj.cells #[.int .i64 tap, .int .i64 wait] 27)
    simpa using this
  have hz3 : w3.heap.size = w.heap.size + 2 := by rw [hW3]; simp
  obtain ⟨X3, hX3⟩ : ∃ X, X = w.heap.size := ⟨_, rfl⟩
  obtain ⟨X4, hX4⟩ : ∃ X, X = w.heap.size + 1 := ⟨_, rfl⟩
  rw [← hX4] at k4
  rw [← hX3] at k3
  simp only [← hX4]
  simp only [← hX3]
  have hw4 : w.heap.size ≤ X4 := by omega
  have n34 : X3 ≠ X4 := by omega
  have n45 : X4 < w.heap.size + 2 := by omega
  have n35 : X3 < w.heap.size + 2 := by omega
  clear hW3 hX3 hX4
  refine (HCO.out w3 hb3).mono ?_
  rintro e5 w5 ⟨rfl, rfl⟩
  have K3 := Lib.hid k3
  have K4 := Lib.hid k4
  have HB := Lib.hid hb3
  have hZ3 := Lib.hid hz3
  clear k3 k4 hb3 HCO hz3
  have c0 := blk_cell K3.out (i := 0) rfl
  have c1 := blk_cell K3.out (i := 1) rfl
  have c2 := blk_cell K3.out (i := 2) rfl
  have c3 := blk_cell K3.out (i := 3) rfl
  have c4 := blk_cell K3.out (i := 4) rfl
  have c5 := blk_cell K3.out (i := 5) rfl
  have l3 := K3.out.lt
  have m0 := blk_cell K4.out (i := 0) rfl
  have m1 := blk_cell K4.out (i := 1) rfl
  have l4 := K4.out.lt
  go_wp2_with fail
  refine later_of_eq 11 (by kernel_rfl) (by kernel_rfl) ?_; simp only [List.take_succ_cons, List.take_zero, List.drop_succ_cons, List.drop_zero]; repeat go_big_quiet_step(first | with_reducible exact calls_later (HC.out _) | with_reducible exact calls_later (HMM.out _) | with_reducible exact calls_later_same (HU8.out _))
  refine wpQuiet_nil ?_; intro w9 hb9
  have K3 := Lib.hid (K3.out.below hb9)
  have K4 := Lib.hid (K4.out.below hb9)
  have HB := Lib.hid (HB.out.trans (hb9.mono HB.out.size))
  have hz9 : w.heap.size + 2 ≤ w9.heap.size := by have h1 := hb9.size; have h2 := hZ3.out; omega
  clear hb9 c0 c1 c2 c3 c4 c5 l3 m0 m1 l4
  go_wp2_with fail
  refine (t_unless_any _ _ _).mono ?_
  rintro e10 w10 ⟨rfl, hw10⟩
  subst hw10
  go_wp2_with fail
  refine (t_first4 _ _ _ _ _ _ _ _ (by rfl) (by simp)).mono ?_
  rintro e8 w8 ⟨rfl, hw8⟩
  have hb8 : Below w9.heap.size w9 w8 := by rw [← hw8]; (repeat' (first | (with_reducible exact Below.refl _ _) | (with_reducible assumption) | (with_reducible refine Below.drewN ?_ _) | (with_reducible refine Below.alloc ?_ ?_ _) | (with_reducible refine Below.drew ?_) | (with_reducible refine Below.setCell ?_ ?_ _) | (with_reducible refine Below.step (by assumption) ?_ ?_) | (with_reducible exact And.left (by assumption)) | go_size))
  have K3 := Lib.hid (K3.out.below hb8)
  have K4 := Lib.hid (K4.out.below hb8)
  have HB := Lib.hid (HB.out.trans (hb8.mono HB.out.size))
  have hz8 : w.heap.size + 2 ≤ w8.heap.size := by have h1 := hb8.size; omega
  clear hb8 hw8
  rw [← HE.out]
  by_cases h0 : E = 0
  · subst h0
    have hn2 := HZ.out (by trivial)
    have HTK2 := Lib.hid (fun k hk W => HTK.out (by trivial) k hk W)
    obtain ⟨BO, hBO⟩ : ∃ B, B = w.heap.size + 2 := ⟨_, rfl⟩
    rw [← hBO] at n45 n35 hz8
    have nwB : w.heap.size ≤ BO := by omega
    clear hBO
    have k4' : BlkR w8 X4 (.cells #[.int .i64 (NM 0).tap, .int .i64 (NM 0).wait] 27) := by rw [HS0.out]; exact K4.out
    have K4 := Lib.hid k4'
    clear k4' HTK HC HMM HU8 HE HZ
    go_wp2_with fail
    go_loopw [10, 34] (fun v i wr => ∃ (k : Nat) (av : Option Addr) (cv : Nat), i = .int .i64 k ∧ v = .slice av k cv ∧ k ≤ n ∧ Hid (wr.ownsRow BO 27 2 (.slice av k cv) k (pcells (CL k))) ∧ Hid (BlkR wr X3 (.cells #[.int .i64 tgt, .int .i64 band, .int .i64 dly, .int .i64 stp, .int .i64 lo, .int .i64 hi] 25)) ∧ Hid (BlkR wr X4 (.cells #[.int .i64 (NM k).tap, .int .i64 (NM k).wait] 27)) ∧ BO ≤ wr.heap.size ∧ Hid (Below w.heap.size w wr)) (fun _ i _ => n - (intOf i).toNat)
    case atStart => exact ⟨0, none, 0, rfl, rfl, Nat.zero_le _, Lib.hid (by rw [HL0.out]; exact World.ownsRow_nil _ _ _ _), K3, K4, hz8, HB⟩
    case round =>
      clear K3 K4 HB hz8
      obtain ⟨k, av, cv, rfl, rfl, hk, hO, K3, K4, hzr, HB⟩ := hrel
      have i0 : (0 : Int) ≤ (k : Int) := by omega
      by_cases hlt : k < n
      · obtain ⟨b, o, rfl, hb, hc⟩ := (HI.out _ HB.out).addr (by omega)
        have hck := hc k hlt
        have HTW := Lib.hid (HTK2.out k hlt wr)
        have HT := Lib.hid (HLS.out k)
        obtain ⟨f, hff⟩ : ∃ f, f = l.getD k 0 := ⟨_, rfl⟩
        rw [← hff] at hck HTW
        obtain ⟨N0, hN0⟩ : ∃ N, N = NM k := ⟨_, rfl⟩
        obtain ⟨N1, hN1⟩ : ∃ N, N = NM (k + 1) := ⟨_, rfl⟩
        have HN1 := Lib.hid hN1
        rw [← hN0] at K4 HTW
        rw [← hN1] at HTW HT
        obtain ⟨a1, a2⟩ := N0
        obtain ⟨g1, g2⟩ := N1
        simp only at K4 HTW
        have HT := Lib.hid (show pcells (CL (k + 1)) = pcells (CL k) ++ pcells [(g1, g2)] by rw [HT.out, pcells_append]; rfl)
        have i1 : (k : Int) < (n : Int) := by omega
        clear hc hff hN0 hN1
        have c0 := blk_cell K3.out (i := 0) rfl
        have c1 := blk_cell K3.out (i := 1) rfl
        have c2 := blk_cell K3.out (i := 2) rfl
        have c3 := blk_cell K3.out (i := 3) rfl
        have c4 := blk_cell K3.out (i := 4) rfl
        have c5 := blk_cell K3.out (i := 5) rfl
        have l3 := K3.out.lt
        have m0 := blk_cell K4.out (i := 0) rfl
        have m1 := blk_cell K4.out (i := 1) rfl
        have l4 := K4.out.lt
        go_wp2_with fail
        refine HTW.out.mono ?_
        rintro e6 w6 ⟨rfl, hb6⟩
        have hO6 := owns_below hO.out hb6 (fun q hq => (hO.out.lt q hq).2)
        have K3 := Lib.hid (K3.out.below hb6)
        have K4 := Lib.hid (K4.out.below hb6)
        have HB := Lib.hid (HB.out.trans (hb6.mono HB.out.size))
        have hz6 := hb6.size
        clear c0 c1 c2 c3 c4 c5 l3 m0 m1 l4 hb6 hO HTW
        have m0 := blk_cell K4.out (i := 0) rfl
        have m1 := blk_cell K4.out (i := 1) rfl
        have f0 := blk_fz K4.out 0
        have f1 := blk_fz K4.out 1
        have l4 := K4.out.lt
        have HO6 := Lib.hid ((ownsRow_setCell_below (ownsRow_setCell_below hO6 (a := ⟨X4, 0, none⟩) n45 (.int .i64 g1)) (a := ⟨X4, 1, none⟩) n45 (.int .i64 g2)).alloc (Obj.cells #[.int .i64 g1, .int .i64 g2] 27))
        have HSL := Lib.hid (show SlR (((w6.setCell ⟨X4, 0, none⟩ (.int .i64 g1)).setCell ⟨X4, 1, none⟩ (.int .i64 g2)).alloc (Obj.cells #[.int .i64 g1, .int .i64 g2] 27)) (some ⟨w6.heap.size, 0, none⟩) 1 2 (pcells [(g1, g2)]) from SlR.lit ((w6.setCell ⟨X4, 0, none⟩ (.int .i64 g1)).setCell ⟨X4, 1, none⟩ (.int .i64 g2)) _ [.int .i64 g1, .int .i64 g2] _ _ 1 2 rfl (by simp) rfl (by omega))
        have HK4 := Lib.hid (show BlkR (((w6.setCell ⟨X4, 0, none⟩ (.int .i64 g1)).setCell ⟨X4, 1, none⟩ (.int .i64 g2)).alloc (Obj.cells #[.int .i64 g1, .int .i64 g2] 27)) X4 (.cells #[.int .i64 g1, .int .i64 g2] 27) from blk_below (blk_set (blk_set K4.out 0 (.int .i64 g1)) 1 (.int .i64 g2)) ((Below.refl _ _).alloc (Nat.le_refl _) _))
        have HK3 := Lib.hid (show BlkR (((w6.setCell ⟨X4, 0, none⟩ (.int .i64 g1)).setCell ⟨X4, 1, none⟩ (.int .i64 g2)).alloc (Obj.cells #[.int .i64 g1, .int .i64 g2] 27)) X3 _ from blk_below ((heap_set_neI n34).trans ((heap_set_neI n34).trans K3.out)) ((Below.refl _ _).alloc (Nat.le_refl _) _))
        have hzW : w6.heap.size + 1 = (((w6.setCell ⟨X4, 0, none⟩ (.int .i64 g1)).setCell ⟨X4, 1, none⟩ (.int .i64 g2)).alloc (Obj.cells #[.int .i64 g1, .int .i64 g2] 27)).heap.size := by simp
        have HBW := Lib.hid (show Below w.heap.size w (((w6.setCell ⟨X4, 0, none⟩ (.int .i64 g1)).setCell ⟨X4, 1, none⟩ (.int .i64 g2)).alloc (Obj.cells #[.int .i64 g1, .int .i64 g2] 27)) from by have h := (HB.out.setCell (p := ⟨X4, 0, none⟩) hw4 (.int .i64 g1)).setCell (p := ⟨X4, 1, none⟩) hw4 (.int .i64 g2); exact h.alloc h.size _)
        clear hO6 K3 HB
        go_wp2_with (at_builtin; refine wpList_append_sl _ rfl _ _ 95 rfl BO 27 _ 2 16 Tryz.underlying95 infoMom rfl (by omega) _ _ _ rfl HO6.out _ 1 1 (pcells [(g1, g2)]) rfl HSL.out (by intro u hu; simp [pcells] at hu; rcases hu with rfl | rfl <;> rfl) (by omega) (by omega) (by rw [← hzW]; omega) ?_)
        intro v2 w2 hown2 hgr2 hb2
        obtain ⟨av2, cv2, rfl, _, _⟩ := owns_slice hown2
        rw [← HT.out] at hown2
        have HO2 := Lib.hid hown2
        have HB2 := Lib.hid (HBW.out.trans (hb2.mono (by omega)))
        have HK32 := Lib.hid (show BlkR w2 X3 _ from (hb2.block X3 (by omega)).trans HK3.out)
        have HK42 := Lib.hid (show BlkR w2 X4 (.cells #[.int .i64 (NM (k + 1)).tap, .int .i64 (NM (k + 1)).wait] 27) from by rw [← HN1.out]; exact (hb2.block X4 n45).trans HK4.out)
        have hz2 : BO ≤ w2.heap.size := by have := hb2.size; omega
        clear hown2 hgr2 hb2 HT HO6 HSL HK3 HK4 HBW m0 m1 f0 f1 l4
        go_wp2
        go_roundw
        case rel => exact ⟨k + 1, av2, cv2, by go_num, rfl, by omega, HO2, HK32, HK42, hz2, HB2⟩
        case measure => simp [intOf]; omega
      · obtain rfl : n = k := by omega
        have hO' := hO.out
        have HLN := Lib.hid (HLE.out n)
        go_wp2
        go_ret2
        exact ⟨av, n, ⟨cv, rfl⟩, HB.out, SlR.of_owns hO'⟩
  · have e1 := bne_iff_ne.2 h0
    have HN := Lib.hid h0
    clear h0
    go_wp2
    go_ret2
    exact ⟨none, 0, ⟨0, rfl⟩, HB.out, by first | exact PairsR.nil _ _ | (rw [if_neg HN.out]; exact PairsR.nil _ _)⟩
end Go.Proofs.YtidboecjllaofaaGreat
