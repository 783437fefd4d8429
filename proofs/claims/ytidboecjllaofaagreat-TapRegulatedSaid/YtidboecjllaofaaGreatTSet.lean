import Derived.Test.YtidboecjllaofaaGreatTRst
/- Settlings, and when pairs rest: the program's exported functions. -/
namespace Go.Proofs.YtidboecjllaofaaGreat
open Go.RowKit Go.Shelf
set_option linter.unusedVariables false
set_option linter.unusedSimpArgs false

/-- What a settling is, from a first repetition. -/
def SetP (r : Reg) (m : Mom) (d : Int) (t x : Int) (b : Bool) : Prop := ∃ T fr, Rep (tick r d) m T fr ∧ t = ((lastM (tick r d) (mvT r d) m T : Nat) : Int) ∧ x = (itr (tick r d) m T).tap ∧ b = decide (lastM (tick r d) (mvT r d) m T ≤ fr)
set_option maxHeartbeats 1000000 in
set_option maxRecDepth 100000 in
theorem settling_any (r : Reg) (m : Mom) (d : Int) (w : World) (hr : RegV r) (hm : MomV r m) (hd : -10000 ≤ d ∧ d ≤ 10000) :
    Calls Tryz.prog 146 #[.agg #[.int .i64 r.tgt, .int .i64 r.band, .int .i64 r.dly, .int .i64 r.stp, .int .i64 r.lo, .int .i64 r.hi], .agg #[.int .i64 m.tap, .int .i64 m.wait], .int .i64 d] w
      fun e' w' => Below w.heap.size w w' ∧ ∃ t x b, SetP r m d t x b ∧ e' = .returned (.tuple #[.agg #[.int .i64 t, .int .i64 x], .bool b]) := by
  have HR := Lib.hid (fun (XR XD : Nat) (W : World) (h1 : BlkR W XR (.cells #[.int .i64 r.tgt, .int .i64 r.band, .int .i64 r.dly, .int .i64 r.stp, .int .i64 r.lo, .int .i64 r.hi] 25)) (h2 : BlkR W XD (.cells #[.int .i64 d] 3)) => restM_any r m d XR XD W hr hm hd h1 h2)
  have HSP := Lib.hid (fun (T fr : Nat) (h : Rep (tick r d) m T fr) => show SetP r m d _ _ _ from ⟨T, fr, h, rfl, rfl, rfl⟩)
  generalize itr (tick r d) m = ST at *
  generalize hsp : SetP r m d = SP at *
  generalize hrp : Rep (tick r d) m = RP at *
  generalize lastM (tick r d) (mvT r d) m = LA at *
  obtain ⟨tgt, band, dly, stp, lo, hi⟩ := r
  obtain ⟨tap, wait⟩ := m
  simp only at HR ⊢
  clear hr hm hd hsp hrp
  go_enter Tryz.func146, Tryz.ntmps146
  go_wp2_with fail
  obtain ⟨w4, hW4⟩ : ∃ w4, w4 = (((w.alloc (Obj.cells #[.int .i64 tgt, .int .i64 band, .int .i64 dly, .int .i64 stp, .int .i64 lo, .int .i64 hi] 25)).alloc (Obj.cells #[.int .i64 tap, .int .i64 wait] 27)).alloc (Obj.cells #[.int .i64 d] 3)).alloc (Obj.cells #[.int .i64 0, .int .i64 0] 125) := ⟨_, rfl⟩
  rw [← hW4]
  have hb4 : Below w.heap.size w w4 := by rw [hW4]; (repeat' (first | (with_reducible exact Below.refl _ _) | (with_reducible assumption) | (with_reducible refine Below.drewN ?_ _) | (with_reducible refine Below.alloc ?_ ?_ _) | (with_reducible refine Below.drew ?_) | (with_reducible refine Below.setCell ?_ ?_ _) | (with_reducible refine Below.step (by assumption) ?_ ?_) | (with_reducible exact And.left (by assumption)) | go_size))
  have k3 : BlkR w4 w.heap.size (.cells #[.int .i64 tgt, .int .i64 band, .int .i64 dly, .int .i64 stp, .int .i64 lo, .int .i64 hi] 25) := by
    show w4.heap[w.heap.size]? = _
    rw [hW4, Below.heap_alloc _ _ _ (by first | (simp; done) | (simp; omega)), Below.heap_alloc _ _ _ (by first | (simp; done) | (simp; omega)), Below.heap_alloc _ _ _ (by simp)]
    exact heap_alloc_new _ _
  have k4 : BlkR w4 (w.heap.size + 1) (.cells #[.int .i64 tap, .int .i64 wait] 27) := by
    show w4.heap[w.heap.size + 1]? = _
    rw [hW4, Below.heap_alloc _ _ _ (by first | (simp; done) | (simp; omega)), Below.heap_alloc _ _ _ (by simp)]
    have := heap_alloc_new (w.alloc (Obj.cells #[.int .i64 tgt, .int .i64 band, .int .i64 dly, .int .i64 stp, .int .i64 lo, .int .i64 hi] 25)) (Obj.cells #[.int .i64 tap, .int .i64 wait] 27)
    simpa using this
  have k5 : BlkR w4 (w.heap.size + 1 + 1) (.cells #[.int .i64 d] 3) := by
    show w4.heap[w.heap.size + 1 + 1]? = _
    rw [hW4, Below.heap_alloc _ _ _ (by simp)]
    have := heap_alloc_new ((w.alloc (Obj.cells #[.int .i64 tgt, .int .i64 band, .int .i64 dly, .int .i64 stp, .int .i64 lo, .int .i64 hi] 25)).alloc (Obj.cells #[.int .i64 tap, .int .i64 wait] 27)) (Obj.cells #[.int .i64 d] 3)
    simpa using this
  have k6 : BlkR w4 (w.heap.size + 1 + 1 + 1) (.cells #[.int .i64 0, .int .i64 0] 125) := by
    show w4.heap[w.heap.size + 1 + 1 + 1]? = _
    rw [hW4]
    have := heap_alloc_new (((w.alloc (Obj.cells #[.int .i64 tgt, .int .i64 band, .int .i64 dly, .int .i64 stp, .int .i64 lo, .int .i64 hi] 25)).alloc (Obj.cells #[.int .i64 tap, .int .i64 wait] 27)).alloc (Obj.cells #[.int .i64 d] 3)) (Obj.cells #[.int .i64 0, .int .i64 0] 125)
    simpa using this
  obtain ⟨X3, hX3⟩ : ∃ X, X = w.heap.size := ⟨_, rfl⟩
  obtain ⟨X4, hX4⟩ : ∃ X, X = w.heap.size + 1 := ⟨_, rfl⟩
  obtain ⟨X5, hX5⟩ : ∃ X, X = w.heap.size + 1 + 1 := ⟨_, rfl⟩
  obtain ⟨X6, hX6⟩ : ∃ X, X = w.heap.size + 1 + 1 + 1 := ⟨_, rfl⟩
  rw [← hX6] at k6
  rw [← hX5] at k5
  rw [← hX4] at k4
  rw [← hX3] at k3
  simp only [← hX6]
  simp only [← hX5]
  simp only [← hX4]
  simp only [← hX3]
  have hw4 : w.heap.size ≤ X4 := by omega
  have hw6 : w.heap.size ≤ X6 := by omega
  have n46 : X4 ≠ X6 := by omega
  have HRW := Lib.hid (HR.out X3 X5 w4 k3 k5)
  clear hW4 hX3 hX4 hX5 hX6 k3 k5 HR
  refine HRW.out.mono ?_
  rintro e5 w5 ⟨hb5, T, fr, hrp, rfl⟩
  have HS := Lib.hid (HSP.out T fr hrp)
  have K4 := Lib.hid (k4.below hb5)
  have K6 := Lib.hid (k6.below hb5)
  have HB := Lib.hid (hb4.trans (hb5.mono hb4.size))
  have c0 := blk_cell K4.out (i := 0) rfl
  have c1 := blk_cell K4.out (i := 1) rfl
  have f0 := blk_fz K4.out 0
  have f1 := blk_fz K4.out 1
  have l4 := K4.out.lt
  have d0 := blk_cell K6.out (i := 0) rfl
  have d1 := blk_cell K6.out (i := 1) rfl
  have g0 := blk_fz K6.out 0
  have g1 := blk_fz K6.out 1
  have l6 := K6.out.lt
  generalize decide (LA T ≤ fr) = rb at *
  generalize LA T = la at *
  generalize ST T = S at *
  obtain ⟨s1, s2⟩ := S
  simp only at HS
  clear k4 k6 hb5 hb4 HRW HSP hrp
  go_wp2
  have kA := blk_set (blk_set K4.out 0 (.int .i64 s1)) 1 (.int .i64 s2)
  have k6' : ((w5.setCell ⟨X4, 0, none⟩ (.int .i64 s1)).setCell ⟨X4, 1, none⟩ (.int .i64 s2)).heap[X6]? = _ := (heap_set_neI n46.symm).trans ((heap_set_neI n46.symm).trans K6.out)
  have hbw : Below w.heap.size w ((w5.setCell ⟨X4, 0, none⟩ (.int .i64 s1)).setCell ⟨X4, 1, none⟩ (.int .i64 s2)) := (HB.out.setCell hw4 _).setCell hw4 _
  have kw := blk_set (blk_set k6' 0 (.int .i64 (la : Int))) 1 (.int .i64 s1)
  have r0 := blk_cell kw (i := 0) rfl
  have r1 := blk_cell kw (i := 1) rfl
  refine bodyPost_ret (v := .tuple #[.agg #[.int .i64 (la : Int), .int .i64 s1], .bool rb]) (by simp [results, Tryz.results146, go_sem, r0, r1]) rfl ⟨(hbw.setCell hw6 _).setCell hw6 _, _, _, _, HS.out, rfl⟩
/-- What SettlingOf gives. -/
def SetO (r : Reg) (m : Mom) (d t x e : Int) : Prop := (rgdE r m d ≠ 0 ∧ t = 0 ∧ x = 0 ∧ e = rgdE r m d) ∨ (rgdE r m d = 0 ∧ ∃ t' x' b, SetP r m d t' x' b ∧ ((b = true ∧ t = t' ∧ x = x' ∧ e = 0) ∨ (b = false ∧ t = 0 ∧ x = 0 ∧ e = 21)))
theorem rgdE_zero {r : Reg} {m : Mom} {d : Int} (h : rgdE r m d = 0) : RegV r ∧ MomV r m ∧ -10000 ≤ d ∧ d ≤ 10000 := by
  unfold rgdE at h
  rw [firstErr_zero', firstErr_zero', firstErr_zero', regE_zero, momE_zero, swE_zero] at h
  exact ⟨h.1, h.2.1, h.2.2.1⟩
set_option maxHeartbeats 1000000 in
set_option maxRecDepth 100000 in
theorem settlingOf_any (r : Reg) (m : Mom) (d : Int) (w : World) :
    Calls Tryz.prog 75 #[.agg #[.int .i64 r.tgt, .int .i64 r.band, .int .i64 r.dly, .int .i64 r.stp, .int .i64 r.lo, .int .i64 r.hi], .agg #[.int .i64 m.tap, .int .i64 m.wait], .int .i64 d] w
      fun e' w' => Below w.heap.size w w' ∧ ∃ t x e, e' = .returned (.tuple #[.agg #[.int .i64 t, .int .i64 x], .int .i64 e]) ∧ SetO r m d t x e := by
  have HE := Lib.hid (fun (W : World) => regulated_any r m d W)
  have HS := Lib.hid (fun (h : rgdE r m d = 0) (W : World) => settling_any r m d W (rgdE_zero h).1 (rgdE_zero h).2.1 (rgdE_zero h).2.2)
  have HO1 := Lib.hid (fun (h : rgdE r m d ≠ 0) => show SetO r m d 0 0 (rgdE r m d) from .inl ⟨h, rfl, rfl, rfl⟩)
  have HO2 := Lib.hid (fun (h : rgdE r m d = 0) (t x : Int) (hs : SetP r m d t x true) => show SetO r m d t x 0 from .inr ⟨h, t, x, true, hs, .inl ⟨rfl, rfl, rfl, rfl⟩⟩)
  have HO3 := Lib.hid (fun (h : rgdE r m d = 0) (t x : Int) (hs : SetP r m d t x false) => show SetO r m d 0 0 21 from .inr ⟨h, t, x, false, hs, .inr ⟨rfl, rfl, rfl, rfl⟩⟩)
  generalize SetO r m d = SO at *
  generalize SetP r m d = SP at *
  generalize rgdE r m d = E at *
  obtain ⟨tgt, band, dly, stp, lo, hi⟩ := r
  obtain ⟨tap, wait⟩ := m
  simp only at HE HS ⊢
  go_enter Tryz.func75, Tryz.ntmps75
  go_wp2_with fail
  obtain ⟨w3, hW3⟩ : ∃ w3, w3 = ((w.alloc (Obj.cells #[.int .i64 tgt, .int .i64 band, .int .i64 dly, .int .i64 stp, .int .i64 lo, .int .i64 hi] 25)).alloc (Obj.cells #[.int .i64 tap, .int .i64 wait] 27)).alloc (Obj.cells #[.int .i64 0, .int .i64 0] 125) := ⟨_, rfl⟩
  rw [← hW3]
  have hb3 : Below w.heap.size w w3 := by rw [hW3]; (repeat' (first | (with_reducible exact Below.refl _ _) | (with_reducible assumption) | (with_reducible refine Below.drewN ?_ _) | (with_reducible refine Below.alloc ?_ ?_ _) | (with_reducible refine Below.drew ?_) | (with_reducible refine Below.setCell ?_ ?_ _) | (with_reducible refine Below.step (by assumption) ?_ ?_) | (with_reducible exact And.left (by assumption)) | go_size))
  have k3 : BlkR w3 w.heap.size (.cells #[.int .i64 tgt, .int .i64 band, .int .i64 dly, .int .i64 stp, .int .i64 lo, .int .i64 hi] 25) := by
    show w3.heap[w.heap.size]? = _
    rw [hW3, Below.heap_alloc _ _ _ (by first | (simp; done) | (simp; omega)), Below.heap_alloc _ _ _ (by simp)]
    exact heap_alloc_new _ _
  have k4 : BlkR w3 (w.heap.size + 1) (.cells #[.int .i64 tap, .int .i64 wait] 27) := by
    show w3.heap[w.heap.size + 1]? = _
    rw [hW3, Below.heap_alloc _ _ _ (by simp)]
    have := heap_alloc_new (w.alloc (Obj.cells #[.int .i64 tgt, .int .i64 band, .int .i64 dly, .int .i64 stp, .int .i64 lo, .int .i64 hi] 25)) (Obj.cells #[.int .i64 tap, .int .i64 wait] 27)
    simpa using this
  have k6 : BlkR w3 (w.heap.size + 1 + 1) (.cells #[.int .i64 0, .int .i64 0] 125) := by
    show w3.heap[w.heap.size + 1 + 1]? = _
    rw [hW3]
    have := heap_alloc_new ((w.alloc (Obj.cells #[.int .i64 tgt, .int .i64 band, .int .i64 dly, .int .i64 stp, .int .i64 lo, .int .i64 hi] 25)).alloc (Obj.cells #[.int .i64 tap, .int .i64 wait] 27)) (Obj.cells #[.int .i64 0, .int .i64 0] 125)
    simpa using this
  obtain ⟨X3, hX3⟩ : ∃ X, X = w.heap.size := ⟨_, rfl⟩
  obtain ⟨X4, hX4⟩ : ∃ X, X = w.heap.size + 1 := ⟨_, rfl⟩
  obtain ⟨X6, hX6⟩ : ∃ X, X = w.heap.size + 1 + 1 := ⟨_, rfl⟩
  rw [← hX6] at k6
  rw [← hX4] at k4
  rw [← hX3] at k3
  simp only [← hX6]
  simp only [← hX4]
  simp only [← hX3]
  have hw6 : w.heap.size ≤ X6 := by omega
  clear hW3 hX3 hX4 hX6
  refine (HE.out w3).mono ?_
  rintro e5 w5 ⟨rfl, hb5⟩
  have K3 := Lib.hid (k3.below hb5)
  have K4 := Lib.hid (k4.below hb5)
  have K6 := Lib.hid (k6.below hb5)
  have HB := Lib.hid (hb3.trans (hb5.mono hb3.size))
  clear k3 k4 k6 hb3 hb5 HE
  by_cases h0 : E = 0
  · subst h0
    have HSW := Lib.hid (HS.out rfl w5)
    have c0 := blk_cell K3.out (i := 0) rfl
    have c1 := blk_cell K3.out (i := 1) rfl
    have c2 := blk_cell K3.out (i := 2) rfl
    have c3 := blk_cell K3.out (i := 3) rfl
    have c4 := blk_cell K3.out (i := 4) rfl
    have c5 := blk_cell K3.out (i := 5) rfl
    have l3 := K3.out.lt
    have m0 := blk_cell K4.out (i := 0) rfl
    have m1 := blk_cell K4.out (i := 1) rfl
    have l4 := K4.out.lt
    clear HS
    go_wp2_with fail
    refine HSW.out.mono ?_
    rintro e7 w7 ⟨hb7, t, x, b, hsp, rfl⟩
    have HSP := Lib.hid hsp
    have n9 : X6 < w7.heap.size := Nat.lt_of_lt_of_le K6.out.lt hb7.size
    have hb8 : Below w5.heap.size w5 (w7.alloc (Obj.cells #[.int .i64 t, .int .i64 x] 125)) := Below.trans hb7 (show Below w5.heap.size w7 _ from (Below.refl _ _).alloc hb7.size _)
    have k9 : BlkR (w7.alloc (Obj.cells #[.int .i64 t, .int .i64 x] 125)) w7.heap.size (.cells #[.int .i64 t, .int .i64 x] 125) := heap_alloc_new _ _
    have K6 := Lib.hid (K6.out.below hb7)
    have HB := Lib.hid (HB.out.trans (hb7.mono HB.out.size))
    have d0 := blk_cell K6.out (i := 0) rfl
    have d1 := blk_cell K6.out (i := 1) rfl
    have g0 := blk_fz K6.out 0
    have g1 := blk_fz K6.out 1
    have l6 := K6.out.lt
    have K9 := Lib.hid k9
    clear c0 c1 c2 c3 c4 c5 l3 m0 m1 l4 hb7 hb8 k9 hsp
    cases b
    · have HSO := Lib.hid (HO3.out (by trivial) t x HSP.out)
      go_wp2
      have kw := blk_below (blk_set (blk_set K6.out 0 (.int .i64 0)) 1 (.int .i64 0)) (show Below _ _ (World.alloc _ (Obj.cells #[.int .i64 t, .int .i64 x] 125)) from (Below.refl _ _).alloc (Nat.le_refl _) _)
      have r0 := blk_cell kw (i := 0) rfl
      have r1 := blk_cell kw (i := 1) rfl
      have hbw : Below w.heap.size w ((w7.setCell ⟨X6, 0, none⟩ (.int .i64 0)).setCell ⟨X6, 1, none⟩ (.int .i64 0)) := (HB.out.setCell hw6 _).setCell hw6 _
      refine bodyPost_ret (v := .tuple #[.agg #[.int .i64 0, .int .i64 0], .int .i64 21]) (by simp [results, Tryz.results75, go_sem, r0, r1]) rfl ⟨hbw.alloc hbw.size _, _, _, _, rfl, HSO.out⟩
    · have HSO := Lib.hid (HO2.out (by trivial) t x HSP.out)
      go_wp2
      have kw := blk_below (blk_set (blk_set K6.out 0 (.int .i64 t)) 1 (.int .i64 x)) (show Below _ _ (World.alloc _ (Obj.cells #[.int .i64 t, .int .i64 x] 125)) from (Below.refl _ _).alloc (Nat.le_refl _) _)
      have r0 := blk_cell kw (i := 0) rfl
      have r1 := blk_cell kw (i := 1) rfl
      have hbw : Below w.heap.size w ((w7.setCell ⟨X6, 0, none⟩ (.int .i64 t)).setCell ⟨X6, 1, none⟩ (.int .i64 x)) := (HB.out.setCell hw6 _).setCell hw6 _
      refine bodyPost_ret (v := .tuple #[.agg #[.int .i64 t, .int .i64 x], .int .i64 0]) (by simp [results, Tryz.results75, go_sem, r0, r1]) rfl ⟨hbw.alloc hbw.size _, _, _, _, rfl, HSO.out⟩
  · have e1 := bne_iff_ne.2 h0
    have HSO := Lib.hid (HO1.out h0)
    have d0 := blk_cell K6.out (i := 0) rfl
    have d1 := blk_cell K6.out (i := 1) rfl
    have g0 := blk_fz K6.out 0
    have g1 := blk_fz K6.out 1
    have l6 := K6.out.lt
    clear h0 HS
    go_wp2
    have kw := blk_set (blk_set K6.out 0 (.int .i64 0)) 1 (.int .i64 0)
    have r0 := blk_cell kw (i := 0) rfl
    have r1 := blk_cell kw (i := 1) rfl
    refine bodyPost_ret (v := .tuple #[.agg #[.int .i64 0, .int .i64 0], .int .i64 E]) (by simp [results, Tryz.results75, go_sem, r0, r1]) rfl ⟨(HB.out.setCell hw6 _).setCell hw6 _, _, _, _, rfl, HSO.out⟩
end Go.Proofs.YtidboecjllaofaaGreat
