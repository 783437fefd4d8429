import Derived.Test.YtdjinmieogpgcaaGreatMTRow
/- The examples of the chapter: machine, limits, regulator; what the plain words give for them. -/
namespace Go.Proofs.YtdjinmieogpgcaaGreat
open Go.RowKit Go.Shelf
set_option linter.unusedVariables false
set_option linter.unusedSimpArgs false
theorem SlR.of_blk {w : World} {b t n sz : Nat} {cs : Array Value} (h : w.heap[b]? = some (.cells cs t)) (hl : cs.size = n * sz) (hn : n ≤ maxLen) : SlR w (some ⟨b, 0, none⟩) n sz cs.toList := by
 refine ⟨by simpa using hl, hn, fun _ => ⟨b, 0, rfl, (Array.getElem?_eq_some_iff.1 h).1, fun i u hu => ?_⟩⟩
 rw [Nat.zero_add, cell_of_row _ _ _ _ _ _ h]
 simpa using hu
def mac0 : Mac := ⟨[⟨0, 0⟩, ⟨0, 2⟩, ⟨1, 2⟩, ⟨1, 0⟩], 3, [⟨0, false, 2, 12⟩, ⟨2, true, 2, 9⟩, ⟨1, false, 4, 9⟩, ⟨3, true, 4, 3⟩]⟩
def mac1 : Mac := ⟨[⟨0, 0⟩, ⟨0, 2⟩, ⟨1, 2⟩, ⟨1, 0⟩], 3, [⟨0, false, 2, 12⟩, ⟨2, true, 2, 9⟩, ⟨1, false, 4, 9⟩, ⟨3, true, 4, 1⟩]⟩
def lim0 : Lim := ⟨12, 0, 10, 4, 10, 30⟩
def reg0 : Reg := ⟨100, 3, 2, 5, -4, 4⟩
set_option maxRecDepth 100000 in
theorem cur0_e : eleE mac0 lim0 6 10 = 0 := by decide
set_option maxRecDepth 100000 in
theorem cur0 : curT mac0 lim0 6 10 = [(0, 1), (2, 1), (8, 1), (0, 1)] := by decide
set_option maxRecDepth 100000 in
theorem opn0 : opnE mac0 lim0 = 0 := by decide
set_option maxRecDepth 100000 in
theorem opn1 : opnE mac1 lim0 = 0 := by decide
set_option maxRecDepth 100000 in
theorem saf0 : safE mac0 lim0 3 = 0 := by decide
set_option maxRecDepth 100000 in
theorem fai0_5 : faiF mac0 5 = [(3, []), (2, [0]), (6, [0, 2]), (4, [0, 2, 1]), (12, [0, 2, 1, 3])] := by decide
set_option maxRecDepth 100000 in
theorem faiK0 : ∀ k, k < 5 → faiK mac0 lim0 k = none := by decide
theorem fai0 : faiV mac0 lim0 = none := by
 unfold faiV
 rw [show mac0.st.toNat = 3 from rfl, saf0, if_neg (by simp)]
 have h := faiK0
 rw [show (64 : Nat) = 64 - 0 from rfl, faiFrom_step (by omega) (h 0 (by omega)), faiFrom_step (by omega) (h 1 (by omega)), faiFrom_step (by omega) (h 2 (by omega)), faiFrom_step (by omega) (h 3 (by omega)), faiFrom_step (by omega) (h 4 (by omega))]
 exact faiFrom_none (k := 5) (by rw [fai0_5]; decide) (64 - 5) 0
theorem inv0_e : invE mac0 lim0 = 0 := by
 unfold invE
 rw [opn0, fai0]
 rfl
set_option maxRecDepth 100000 in
theorem inv0 : invL mac0 lim0 = [2, 3, 4, 6, 12] := by
 unfold invL
 rw [inv0_e, if_neg (by simp)]
 have h5 : reaF mac0 5 = [3, 2, 6, 4, 12] := by rw [← faiF_keys, fai0_5]; rfl
 have hA : reaA mac0 = [3, 2, 6, 4, 12] := by rw [← h5]; exact (reaF_all (opnE_zero opn0).1 (by rw [h5]; decide) (by omega)).symm
 unfold reaS
 rw [hA]
 decide
set_option maxRecDepth 100000 in
theorem saf1 : safE mac1 lim0 3 = 0 := by decide
set_option maxRecDepth 100000 in
theorem faiK1 : ∀ k, k < 2 → faiK mac1 lim0 k = none := by decide
set_option maxRecDepth 100000 in
theorem faiK2 : faiK mac1 lim0 2 = some [0, 2, 3] := by decide
theorem fai1 : faiV mac1 lim0 = some [0, 2, 3] := by
 unfold faiV
 rw [show mac1.st.toNat = 3 from rfl, saf1, if_neg (by simp)]
 have h := faiK1
 rw [show (64 : Nat) = 64 - 0 from rfl, faiFrom_step (by omega) (h 0 (by omega)), faiFrom_step (by omega) (h 1 (by omega))]
 exact faiFrom_found (by omega) faiK2
theorem fail1_e : failE mac1 lim0 = 0 := by
 unfold failE
 rw [opn1, fai1]
 rfl
theorem fail1 : failL mac1 lim0 = [0, 2, 3] := by
 unfold failL
 rw [opn1, fai1]
 rfl
set_option maxRecDepth 100000 in
theorem rep0 : Rep (tick reg0 90) ⟨0, 0⟩ 5 4 := ⟨by omega, by decide, fun i j h1 h2 => by
 have : ∀ j, j < 5 → ∀ i, i < j → itr (tick reg0 90) ⟨0, 0⟩ i ≠ itr (tick reg0 90) ⟨0, 0⟩ j := by decide
 exact this j h2 i h1⟩
set_option maxRecDepth 100000 in
theorem set0 : lastM (tick reg0 90) (mvT reg0 90) ⟨0, 0⟩ 5 = 4 ∧ (itr (tick reg0 90) ⟨0, 0⟩ 5).tap = 2 := by decide
def pai0 : Pai := ⟨reg0, reg0, ⟨0, 0⟩, ⟨0, 0⟩⟩
set_option maxRecDepth 100000 in
theorem repP0 : Rep (tickP 90) pai0 5 4 := ⟨by omega, by decide, fun i j h1 h2 => by
 have : ∀ j, j < 5 → ∀ i, i < j → itr (tickP 90) pai0 i ≠ itr (tickP 90) pai0 j := by decide
 exact this j h2 i h1⟩
set_option maxRecDepth 100000 in
theorem setP0 : lastM (tickP 90) (mvP 90) pai0 5 = 4 := by decide
theorem whole_any (n : Int) (w : World) : Calls Tryz.prog 37 #[.int .i64 n] w fun e' w' => e' = .returned (.agg #[.int .i64 n, .int .i64 1]) ∧ Below w.heap.size w w' := by
 go_enter Tryz.func37, Tryz.ntmps37
 go_wp2
 refine bodyPost_ret (v := .agg #[.int .i64 n, .int .i64 1]) (by simp [results, Tryz.results37, go_sem]) rfl ⟨rfl, by (first|exact bwg|go_size)⟩
theorem limits_any (w : World) : Calls Tryz.prog 33 #[] w fun e' w' => e' = .returned (.agg #[.int .i64 12, .int .i64 0, .int .i64 10, .int .i64 4, .int .i64 10, .int .i64 30]) ∧ Below w.heap.size w w' := by
 go_enter Tryz.func33, Tryz.ntmps33
 go_wp2
 refine bodyPost_ret (v := .agg #[.int .i64 12, .int .i64 0, .int .i64 10, .int .i64 4, .int .i64 10, .int .i64 30]) (by simp [results, Tryz.results33, go_sem]) rfl ⟨rfl, by (first|exact bwg|go_size)⟩
theorem regulator_any (w : World) : Calls Tryz.prog 35 #[] w fun e' w' => e' = .returned (.agg #[.int .i64 100, .int .i64 3, .int .i64 2, .int .i64 5, .int .i64 (-4), .int .i64 4]) ∧ Below w.heap.size w w' := by
 go_enter Tryz.func35, Tryz.ntmps35
 go_wp2
 refine bodyPost_ret (v := .agg #[.int .i64 100, .int .i64 3, .int .i64 2, .int .i64 5, .int .i64 (-4), .int .i64 4]) (by simp [results, Tryz.results35, go_sem]) rfl ⟨rfl, by (first|exact bwg|go_size)⟩
def brs0 : Array Value := #[.int .i64 0, .int .i64 0, .int .i64 0, .int .i64 2, .int .i64 1, .int .i64 2, .int .i64 1, .int .i64 0]
def grs0 : Array Value := #[.int .i64 0, .bool false, .int .i64 2, .int .i64 12, .int .i64 2, .bool true, .int .i64 2, .int .i64 9, .int .i64 1, .bool false, .int .i64 4, .int .i64 9, .int .i64 3, .bool true, .int .i64 4, .int .i64 3]
def grs1 : Array Value := #[.int .i64 0, .bool false, .int .i64 2, .int .i64 12, .int .i64 2, .bool true, .int .i64 2, .int .i64 9, .int .i64 1, .bool false, .int .i64 4, .int .i64 9, .int .i64 3, .bool true, .int .i64 4, .int .i64 1]
theorem br0_of {w : World} {b : Nat} (h : BlkR w b (.cells brs0 126)) : BrR w (some ⟨b, 0, none⟩) 4 mac0.br := ⟨rfl, SlR.of_blk h rfl (by unfold maxLen; omega)⟩
theorem gr0_of {w : World} {b : Nat} (h : BlkR w b (.cells grs0 77)) : GrR w (some ⟨b, 0, none⟩) 4 mac0.gs := ⟨rfl, SlR.of_blk h rfl (by unfold maxLen; omega)⟩
theorem gr1_of {w : World} {b : Nat} (h : BlkR w b (.cells grs1 77)) : GrR w (some ⟨b, 0, none⟩) 4 mac1.gs := ⟨rfl, SlR.of_blk h rfl (by unfold maxLen; omega)⟩
set_option maxRecDepth 100000 in
theorem machine_any (w : World) : Calls Tryz.prog 32 #[] w fun e' w' => ∃ b1 b2, e' = .returned (.agg #[.slice (some ⟨b1, 0, none⟩) 4 4, .int .i64 3, .slice (some ⟨b2, 0, none⟩) 4 4]) ∧ Below w.heap.size w w' ∧ w.heap.size ≤ b2 ∧ BlkR w' b1 (.cells brs0 126) ∧ BlkR w' b2 (.cells grs0 77) ∧ b1 ≠ b2 := by
 go_enter Tryz.func32, Tryz.ntmps32
 go_wp2
 refine bodyPost_ret (v := .agg #[.slice (some ⟨w.heap.size + 1, 0, none⟩) 4 4, .int .i64 3, .slice (some ⟨w.heap.size + 1 + 1, 0, none⟩) 4 4]) (by simp [results, Tryz.results32, go_sem]) rfl ⟨w.heap.size + 1, w.heap.size + 1 + 1, rfl, by (first|exact bwg|go_size), by omega, ?_, ?_, by omega⟩
 ·have := heap_alloc_new (w.alloc (Obj.cells #[.slice (some ⟨w.heap.size + 1, 0, none⟩) 4 4, .int .i64 3, .slice (some ⟨w.heap.size + 1 + 1, 0, none⟩) 4 4] 45)) (Obj.cells brs0 126)
  rw [World.size_alloc] at this
  exact (Below.heap_alloc _ _ _ (by simp)).trans this
 ·have := heap_alloc_new ((w.alloc (Obj.cells #[.slice (some ⟨w.heap.size + 1, 0, none⟩) 4 4, .int .i64 3, .slice (some ⟨w.heap.size + 1 + 1, 0, none⟩) 4 4] 45)).alloc (Obj.cells brs0 126)) (Obj.cells grs0 77)
  rw [World.size_alloc, World.size_alloc] at this
  exact this
/- Settlings, and when pairs rest: the program's exported functions. -/
def SetP (r : Reg) (m : Mom) (d : Int) (t x : Int) (b : Bool) : Prop := ∃ T fr, Rep (tick r d) m T fr ∧ t = ((lastM (tick r d) (mvT r d) m T : Nat) : Int) ∧ x = (itr (tick r d) m T).tap ∧ b = decide (lastM (tick r d) (mvT r d) m T ≤ fr)
set_option maxHeartbeats 1000000 in
set_option maxRecDepth 100000 in
theorem settling_any (r : Reg) (m : Mom) (d : Int) (w : World) (hr : RegV r) (hm : MomV r m) (hd : -10000 ≤ d ∧ d ≤ 10000) :
    Calls Tryz.prog 70 #[.agg #[.int .i64 r.tgt, .int .i64 r.band, .int .i64 r.dly, .int .i64 r.stp, .int .i64 r.lo, .int .i64 r.hi], .agg #[.int .i64 m.tap, .int .i64 m.wait], .int .i64 d] w
     fun e' w' => Below w.heap.size w w' ∧ ∃ t x b, SetP r m d t x b ∧ e' = .returned (.tuple #[.agg #[.int .i64 t, .int .i64 x], .bool b]) := by
 have HR := Lib.hid (fun (XR XD : Nat) (W : World) (h1 : BlkR W XR (.cells #[.int .i64 r.tgt, .int .i64 r.band, .int .i64 r.dly, .int .i64 r.stp, .int .i64 r.lo, .int .i64 r.hi] 25)) (h2 : BlkR W XD (.cells #[.int .i64 d] 3)) => restM_any r m d XR XD W hr hm hd h1 h2)
 have HSP := Lib.hid (fun (T fr : Nat) (h : Rep (tick r d) m T fr) => show SetP r m d _ _ _ from ⟨T, fr, h, rfl, rfl, rfl⟩)
 generalize itr (tick r d) m = ST at *
 generalize hsp : SetP r m d = SP at *
 generalize hrp : Rep (tick r d) m = RP at *
 generalize lastM (tick r d) (mvT r d) m = LA at *
 obtain ⟨tgt, band, dly, stp, lo, hi⟩ := r
 obtain ⟨tap, wait⟩ := m
 simp only at HR ⊢
 clear hr hm hd hsp hrp
 go_enter Tryz.func70, Tryz.ntmps70
 go_wp2_with fail
 obtain ⟨w4, hW4⟩ : ∃ w4, w4 = (((w.alloc (Obj.cells #[.int .i64 tgt, .int .i64 band, .int .i64 dly, .int .i64 stp, .int .i64 lo, .int .i64 hi] 25)).alloc (Obj.cells #[.int .i64 tap, .int .i64 wait] 27)).alloc (Obj.cells #[.int .i64 d] 3)).alloc (Obj.cells #[.int .i64 0, .int .i64 0] 79) := ⟨_, rfl⟩
 rw [← hW4]
 have hb4 : Below w.heap.size w w4 := by rw [hW4]; (first|exact bwg|go_size)
 have k3 : BlkR w4 w.heap.size (.cells #[.int .i64 tgt, .int .i64 band, .int .i64 dly, .int .i64 stp, .int .i64 lo, .int .i64 hi] 25) := by
  show w4.heap[w.heap.size]? = _
  rw [hW4, Below.heap_alloc _ _ _ (by first | (simp; done) | (simp; omega)), Below.heap_alloc _ _ _ (by first | (simp; done) | (simp; omega)), Below.heap_alloc _ _ _ (by simp)]
  exact heap_alloc_new _ _
 have k4 : BlkR w4 (w.heap.size + 1) (.cells #[.int .i64 tap, .int .i64 wait] 27) := by
  show w4.heap[w.heap.size + 1]? = _
  rw [hW4, Below.heap_alloc _ _ _ (by first | (simp; done) | (simp; omega)), Below.heap_alloc _ _ _ (by simp)]
  have := heap_alloc_new (w.alloc (Obj.cells #[.int .i64 tgt, .int .i64 band, .int .i64 dly, .int .i64 stp, .int .i64 lo, .int .i64 hi] 25)) (Obj.cells #[.int .i64 tap, .int .i64 wait] 27)
  simpa using this
 have k5 : BlkR w4 (w.heap.size + 1 + 1) (.cells #[.int .i64 d] 3) := by
  show w4.heap[w.heap.size + 1 + 1]? = _
  rw [hW4, Below.heap_alloc _ _ _ (by simp)]
  have := heap_alloc_new ((w.alloc (Obj.cells #[.int .i64 tgt, .int .i64 band, .int .i64 dly, .int .i64 stp, .int .i64 lo, .int .i64 hi] 25)).alloc (Obj.cells #[.int .i64 tap, .int .i64 wait] 27)) (Obj.cells #[.int .i64 d] 3)
  simpa using this
 have k6 : BlkR w4 (w.heap.size + 1 + 1 + 1) (.cells #[.int .i64 0, .int .i64 0] 79) := by
  show w4.heap[w.heap.size + 1 + 1 + 1]? = _
  rw [hW4]
  have := heap_alloc_new (((w.alloc (Obj.cells #[.int .i64 tgt, .int .i64 band, .int .i64 dly, .int .i64 stp, .int .i64 lo, .int .i64 hi] 25)).alloc (Obj.cells #[.int .i64 tap, .int .i64 wait] 27)).alloc (Obj.cells #[.int .i64 d] 3)) (Obj.cells #[.int .i64 0, .int .i64 0] 79)
  simpa using this
 obtain ⟨X3, hX3⟩ : ∃ X, X = w.heap.size := ⟨_, rfl⟩
 obtain ⟨X4, hX4⟩ : ∃ X, X = w.heap.size + 1 := ⟨_, rfl⟩
 obtain ⟨X5, hX5⟩ : ∃ X, X = w.heap.size + 1 + 1 := ⟨_, rfl⟩
 obtain ⟨X6, hX6⟩ : ∃ X, X = w.heap.size + 1 + 1 + 1 := ⟨_, rfl⟩
 rw [← hX6] at k6
 rw [← hX5] at k5
 rw [← hX4] at k4
 rw [← hX3] at k3
 simp only [← hX6]
 simp only [← hX5]
 simp only [← hX4]
 simp only [← hX3]
 have hw4 : w.heap.size ≤ X4 := by omega
 have hw6 : w.heap.size ≤ X6 := by omega
 have n46 : X4 ≠ X6 := by omega
 have HRW := Lib.hid (HR.out X3 X5 w4 k3 k5)
 clear hW4 hX3 hX4 hX5 hX6 k3 k5 HR
 refine HRW.out.mono ?_
 rintro e5 w5 ⟨hb5, T, fr, hrp, rfl⟩
 have HS := Lib.hid (HSP.out T fr hrp)
 have K4 := Lib.hid (k4.below hb5)
 have K6 := Lib.hid (k6.below hb5)
 have HB := Lib.hid (hb4.trans (hb5.mono hb4.size))
 obtain ⟨c0, c1, _⟩ := blkc2 K4.out
 have f0 := blk_fz K4.out 0
 have f1 := blk_fz K4.out 1
 have l4 := K4.out.lt
 obtain ⟨d0, d1, _⟩ := blkc2 K6.out
 have g0 := blk_fz K6.out 0
 have g1 := blk_fz K6.out 1
 have l6 := K6.out.lt
 generalize decide (LA T ≤ fr) = rb at *
 generalize LA T = la at *
 generalize ST T = S at *
 obtain ⟨s1, s2⟩ := S
 simp only at HS
 clear k4 k6 hb5 hb4 HRW HSP hrp
 go_wp2
 have kA := blk_set (blk_set K4.out 0 (.int .i64 s1)) 1 (.int .i64 s2)
 have k6' : ((w5.setCell ⟨X4, 0, none⟩ (.int .i64 s1)).setCell ⟨X4, 1, none⟩ (.int .i64 s2)).heap[X6]? = _ := (heap_set_neI n46.symm).trans ((heap_set_neI n46.symm).trans K6.out)
 have hbw : Below w.heap.size w ((w5.setCell ⟨X4, 0, none⟩ (.int .i64 s1)).setCell ⟨X4, 1, none⟩ (.int .i64 s2)) := (HB.out.setCell hw4 _).setCell hw4 _
 have kw := blk_set (blk_set k6' 0 (.int .i64 (la : Int))) 1 (.int .i64 s1)
 obtain ⟨r0, r1, _⟩ := blkc2 kw
 refine bodyPost_ret (v := .tuple #[.agg #[.int .i64 (la : Int), .int .i64 s1], .bool rb]) (by simp [results, Tryz.results70, go_sem, r0, r1]) rfl ⟨(hbw.setCell hw6 _).setCell hw6 _, _, _, _, HS.out, rfl⟩
def SetO (r : Reg) (m : Mom) (d t x e : Int) : Prop := (rgdE r m d ≠ 0 ∧ t = 0 ∧ x = 0 ∧ e = rgdE r m d) ∨ (rgdE r m d = 0 ∧ ∃ t' x' b, SetP r m d t' x' b ∧ ((b = true ∧ t = t' ∧ x = x' ∧ e = 0) ∨ (b = false ∧ t = 0 ∧ x = 0 ∧ e = 21)))
theorem rgdE_zero {r : Reg} {m : Mom} {d : Int} (h : rgdE r m d = 0) : RegV r ∧ MomV r m ∧ -10000 ≤ d ∧ d ≤ 10000 := by
 unfold rgdE at h
 rw [firstErr_zero', firstErr_zero', firstErr_zero', regE_zero, momE_zero, swE_zero] at h
 exact ⟨h.1, h.2.1, h.2.2.1⟩
set_option maxHeartbeats 1000000 in
set_option maxRecDepth 100000 in
theorem settlingOf_any (r : Reg) (m : Mom) (d : Int) (w : World) :
    Calls Tryz.prog 34 #[.agg #[.int .i64 r.tgt, .int .i64 r.band, .int .i64 r.dly, .int .i64 r.stp, .int .i64 r.lo, .int .i64 r.hi], .agg #[.int .i64 m.tap, .int .i64 m.wait], .int .i64 d] w
     fun e' w' => Below w.heap.size w w' ∧ ∃ t x e, e' = .returned (.tuple #[.agg #[.int .i64 t, .int .i64 x], .int .i64 e]) ∧ SetO r m d t x e := by
 have HE := Lib.hid (fun (W : World) => regulated_any r m d W)
 have HS := Lib.hid (fun (h : rgdE r m d = 0) (W : World) => settling_any r m d W (rgdE_zero h).1 (rgdE_zero h).2.1 (rgdE_zero h).2.2)
 have HO1 := Lib.hid (fun (h : rgdE r m d ≠ 0) => show SetO r m d 0 0 (rgdE r m d) from .inl ⟨h, rfl, rfl, rfl⟩)
 have HO2 := Lib.hid (fun (h : rgdE r m d = 0) (t x : Int) (hs : SetP r m d t x true) => show SetO r m d t x 0 from .inr ⟨h, t, x, true, hs, .inl ⟨rfl, rfl, rfl, rfl⟩⟩)
 have HO3 := Lib.hid (fun (h : rgdE r m d = 0) (t x : Int) (hs : SetP r m d t x false) => show SetO r m d 0 0 21 from .inr ⟨h, t, x, false, hs, .inr ⟨rfl, rfl, rfl, rfl⟩⟩)
 generalize SetO r m d = SO at *
 generalize SetP r m d = SP at *
 generalize rgdE r m d = E at *
 obtain ⟨tgt, band, dly, stp, lo, hi⟩ := r
 obtain ⟨tap, wait⟩ := m
 simp only at HE HS ⊢
 go_enter Tryz.func34, Tryz.ntmps34
 go_wp2_with fail
 obtain ⟨w3, hW3⟩ : ∃ w3, w3 = ((w.alloc (Obj.cells #[.int .i64 tgt, .int .i64 band, .int .i64 dly, .int .i64 stp, .int .i64 lo, .int .i64 hi] 25)).alloc (Obj.cells #[.int .i64 tap, .int .i64 wait] 27)).alloc (Obj.cells #[.int .i64 0, .int .i64 0] 79) := ⟨_, rfl⟩
 rw [← hW3]
 have hb3 : Below w.heap.size w w3 := by rw [hW3]; (first|exact bwg|go_size)
 have k3 : BlkR w3 w.heap.size (.cells #[.int .i64 tgt, .int .i64 band, .int .i64 dly, .int .i64 stp, .int .i64 lo, .int .i64 hi] 25) := by
  show w3.heap[w.heap.size]? = _
  rw [hW3, Below.heap_alloc _ _ _ (by first | (simp; done) | (simp; omega)), Below.heap_alloc _ _ _ (by simp)]
  exact heap_alloc_new _ _
 have k4 : BlkR w3 (w.heap.size + 1) (.cells #[.int .i64 tap, .int .i64 wait] 27) := by
  show w3.heap[w.heap.size + 1]? = _
  rw [hW3, Below.heap_alloc _ _ _ (by simp)]
  have := heap_alloc_new (w.alloc (Obj.cells #[.int .i64 tgt, .int .i64 band, .int .i64 dly, .int .i64 stp, .int .i64 lo, .int .i64 hi] 25)) (Obj.cells #[.int .i64 tap, .int .i64 wait] 27)
  simpa using this
 have k6 : BlkR w3 (w.heap.size + 1 + 1) (.cells #[.int .i64 0, .int .i64 0] 79) := by
  show w3.heap[w.heap.size + 1 + 1]? = _
  rw [hW3]
  have := heap_alloc_new ((w.alloc (Obj.cells #[.int .i64 tgt, .int .i64 band, .int .i64 dly, .int .i64 stp, .int .i64 lo, .int .i64 hi] 25)).alloc (Obj.cells #[.int .i64 tap, .int .i64 wait] 27)) (Obj.cells #[.int .i64 0, .int .i64 0] 79)
  simpa using this
 obtain ⟨X3, hX3⟩ : ∃ X, X = w.heap.size := ⟨_, rfl⟩
 obtain ⟨X4, hX4⟩ : ∃ X, X = w.heap.size + 1 := ⟨_, rfl⟩
 obtain ⟨X6, hX6⟩ : ∃ X, X = w.heap.size + 1 + 1 := ⟨_, rfl⟩
 rw [← hX6] at k6
 rw [← hX4] at k4
 rw [← hX3] at k3
 simp only [← hX6]
 simp only [← hX4]
 simp only [← hX3]
 have hw6 : w.heap.size ≤ X6 := by omega
 clear hW3 hX3 hX4 hX6
 refine (HE.out w3).mono ?_
 rintro e5 w5 ⟨rfl, hb5⟩
 have K3 := Lib.hid (k3.below hb5)
 have K4 := Lib.hid (k4.below hb5)
 have K6 := Lib.hid (k6.below hb5)
 have HB := Lib.hid (hb3.trans (hb5.mono hb3.size))
 clear k3 k4 k6 hb3 hb5 HE
 by_cases h0 : E = 0
 ·subst h0
  have HSW := Lib.hid (HS.out rfl w5)
  obtain ⟨c0, c1, c2, c3, c4, c5, l3⟩ := blkc6 K3.out
  obtain ⟨m0, m1, l4⟩ := blkc2 K4.out
  clear HS
  go_wp2_with fail
  refine HSW.out.mono ?_
  rintro e7 w7 ⟨hb7, t, x, b, hsp, rfl⟩
  have HSP := Lib.hid hsp
  have n9 : X6 < w7.heap.size := Nat.lt_of_lt_of_le K6.out.lt hb7.size
  have hb8 : Below w5.heap.size w5 (w7.alloc (Obj.cells #[.int .i64 t, .int .i64 x] 79)) := Below.trans hb7 (show Below w5.heap.size w7 _ from (Below.refl _ _).alloc hb7.size _)
  have k9 : BlkR (w7.alloc (Obj.cells #[.int .i64 t, .int .i64 x] 79)) w7.heap.size (.cells #[.int .i64 t, .int .i64 x] 79) := heap_alloc_new _ _
  have K6 := Lib.hid (K6.out.below hb7)
  have HB := bwt HB hb7
  obtain ⟨d0, d1, _⟩ := blkc2 K6.out
  have g0 := blk_fz K6.out 0
  have g1 := blk_fz K6.out 1
  have l6 := K6.out.lt
  have K9 := Lib.hid k9
  clear c0 c1 c2 c3 c4 c5 l3 m0 m1 l4 hb7 hb8 k9 hsp
  cases b
  ·have HSO := Lib.hid (HO3.out (by trivial) t x HSP.out)
   go_wp2
   have kw := blk_below (blk_set (blk_set K6.out 0 (.int .i64 0)) 1 (.int .i64 0)) (show Below _ _ (World.alloc _ (Obj.cells #[.int .i64 t, .int .i64 x] 79)) from (Below.refl _ _).alloc (Nat.le_refl _) _)
   obtain ⟨r0, r1, _⟩ := blkc2 kw
   have hbw : Below w.heap.size w ((w7.setCell ⟨X6, 0, none⟩ (.int .i64 0)).setCell ⟨X6, 1, none⟩ (.int .i64 0)) := (HB.out.setCell hw6 _).setCell hw6 _
   refine bodyPost_ret (v := .tuple #[.agg #[.int .i64 0, .int .i64 0], .int .i64 21]) (by simp [results, Tryz.results34, go_sem, r0, r1]) rfl ⟨hbw.alloc hbw.size _, _, _, _, rfl, HSO.out⟩
  ·have HSO := Lib.hid (HO2.out (by trivial) t x HSP.out)
   go_wp2
   have kw := blk_below (blk_set (blk_set K6.out 0 (.int .i64 t)) 1 (.int .i64 x)) (show Below _ _ (World.alloc _ (Obj.cells #[.int .i64 t, .int .i64 x] 79)) from (Below.refl _ _).alloc (Nat.le_refl _) _)
   obtain ⟨r0, r1, _⟩ := blkc2 kw
   have hbw : Below w.heap.size w ((w7.setCell ⟨X6, 0, none⟩ (.int .i64 t)).setCell ⟨X6, 1, none⟩ (.int .i64 x)) := (HB.out.setCell hw6 _).setCell hw6 _
   refine bodyPost_ret (v := .tuple #[.agg #[.int .i64 t, .int .i64 x], .int .i64 0]) (by simp [results, Tryz.results34, go_sem, r0, r1]) rfl ⟨hbw.alloc hbw.size _, _, _, _, rfl, HSO.out⟩
 ·have e1 := bne_iff_ne.2 h0
  have HSO := Lib.hid (HO1.out h0)
  obtain ⟨d0, d1, _⟩ := blkc2 K6.out
  have g0 := blk_fz K6.out 0
  have g1 := blk_fz K6.out 1
  have l6 := K6.out.lt
  clear h0 HS
  go_wp2
  have kw := blk_set (blk_set K6.out 0 (.int .i64 0)) 1 (.int .i64 0)
  obtain ⟨r0, r1, _⟩ := blkc2 kw
  refine bodyPost_ret (v := .tuple #[.agg #[.int .i64 0, .int .i64 0], .int .i64 E]) (by simp [results, Tryz.results34, go_sem, r0, r1]) rfl ⟨(HB.out.setCell hw6 _).setCell hw6 _, _, _, _, rfl, HSO.out⟩
/- The chapter is awake: the laws' own examples hold. -/
set_option maxHeartbeats 4000000 in
set_option maxRecDepth 100000 in
theorem awake_of (w : World) (hpr : ∀ W : World, Calls Tryz.prog 8 #[.agg #[.int .i64 100, .int .i64 3, .int .i64 2, .int .i64 5, .int .i64 (-4), .int .i64 4, .int .i64 100, .int .i64 3, .int .i64 2, .int .i64 5, .int .i64 (-4), .int .i64 4, .int .i64 0, .int .i64 0, .int .i64 0, .int .i64 0], .int .i64 90] W fun e' w' => e' = .returned (.tuple #[.int .i64 4, .int .i64 0]) ∧ Below W.heap.size W w') :
    Calls Tryz.prog 6 #[] w fun e' w' => e' = .returned (.bool true) ∧ Below w.heap.size w w' := by
 have HPR := Lib.hid hpr
 have HCI := Lib.hid (fun (b1 b2 : Nat) (W : World) (h1 : BrR W (some ⟨b1, 0, none⟩) 4 mac0.br) (h2 : GrR W (some ⟨b2, 0, none⟩) 4 mac0.gs) => show Calls Tryz.prog 31 #[.agg #[.slice (some ⟨b1, 0, none⟩) 4 4, .int .i64 3, .slice (some ⟨b2, 0, none⟩) 4 4], .agg #[.int .i64 12, .int .i64 0, .int .i64 10, .int .i64 4, .int .i64 10, .int .i64 30], .int .i64 6, .int .i64 10] W (fun e' w' => ∃ a' n' c', e' = .returned (.tuple #[.slice a' n' c', .int .i64 0]) ∧ Below W.heap.size W w' ∧ PairsR w' a' n' [(0, 1), (2, 1), (8, 1), (0, 1)]) from by
  have h := currentsIn_any mac0 lim0 6 10 (some ⟨b1, 0, none⟩) (some ⟨b2, 0, none⟩) 4 4 4 4 W h1 h2 (by omega)
  rw [cur0_e, if_pos rfl, show (6 : Int).toNat = 6 from rfl, cur0] at h
  exact h)
 have HIN := Lib.hid (fun (b1 b2 : Nat) (W : World) (h1 : BrR W (some ⟨b1, 0, none⟩) 4 mac0.br) (h2 : GrR W (some ⟨b2, 0, none⟩) 4 mac0.gs) => show Calls Tryz.prog 16 #[.agg #[.slice (some ⟨b1, 0, none⟩) 4 4, .int .i64 3, .slice (some ⟨b2, 0, none⟩) 4 4], .agg #[.int .i64 12, .int .i64 0, .int .i64 10, .int .i64 4, .int .i64 10, .int .i64 30]] W (fun e' w' => ∃ a' n' c', e' = .returned (.tuple #[.slice a' n' c', .int .i64 0]) ∧ Below W.heap.size W w' ∧ IntsR w' a' n' [2, 3, 4, 6, 12]) from by
  have h := invariantOf_any mac0 lim0 (some ⟨b1, 0, none⟩) (some ⟨b2, 0, none⟩) 4 4 4 4 W h1 h2
  rw [inv0_e, inv0] at h
  exact h)
 have HFO := Lib.hid (fun (b1 b2 : Nat) (W : World) (h1 : BrR W (some ⟨b1, 0, none⟩) 4 mac1.br) (h2 : GrR W (some ⟨b2, 0, none⟩) 4 mac1.gs) => show Calls Tryz.prog 14 #[.agg #[.slice (some ⟨b1, 0, none⟩) 4 4, .int .i64 3, .slice (some ⟨b2, 0, none⟩) 4 4], .agg #[.int .i64 12, .int .i64 0, .int .i64 10, .int .i64 4, .int .i64 10, .int .i64 30]] W (fun e' w' => ∃ a' n' c', e' = .returned (.tuple #[.slice a' n' c', .int .i64 0]) ∧ Below W.heap.size W w' ∧ IntsR w' a' n' [0, 2, 3]) from by
  have h := failureOf_any mac1 lim0 (some ⟨b1, 0, none⟩) (some ⟨b2, 0, none⟩) 4 4 4 4 W h1 h2
  rw [fail1_e, fail1] at h
  exact h.mono (fun e w' h => by obtain ⟨a, n, c, h1, h2, h3, _⟩ := h; exact ⟨a, n, c, h1, h2, h3⟩))
 have HSO := Lib.hid (fun (W : World) => show Calls Tryz.prog 34 #[.agg #[.int .i64 100, .int .i64 3, .int .i64 2, .int .i64 5, .int .i64 (-4), .int .i64 4], .agg #[.int .i64 0, .int .i64 0], .int .i64 90] W (fun e' w' => e' = .returned (.tuple #[.agg #[.int .i64 4, .int .i64 2], .int .i64 0]) ∧ Below W.heap.size W w') from (settlingOf_any reg0 ⟨0, 0⟩ 90 W).mono (fun e w' h => by
  obtain ⟨hb, t, x, e', rfl, h⟩ := h
  refine ⟨?_, hb⟩
  have hz : rgdE reg0 ⟨0, 0⟩ 90 = 0 := by decide
  rcases h with ⟨h, _⟩ | ⟨_, t', x', b, ⟨T, fr, hr, rfl, rfl, rfl⟩, h⟩
  ·exact absurd hz h
  ·obtain ⟨rfl, rfl⟩ := hr.uniq rep0
   rw [set0.1, set0.2] at h
   rcases h with ⟨_, rfl, rfl, rfl⟩ | ⟨h, _⟩
   ·rfl
   ·simp at h))
 have hse : ∀ w : World, (binOp .eql 79 (.agg #[.int .i64 4, .int .i64 2]) (.agg #[.int .i64 4, .int .i64 2])).run Tryz.prog w = .ok (.bool true) w := fun w => by kernel_rfl
 have HB := Lib.hid (Below.refl w.heap.size w)
 clear hpr
 go_enter Tryz.func6, Tryz.ntmps6
 go_wp2_with fail
 refine (machine_any _).mono ?_
 rintro e1 w1 ⟨b1, b2, rfl, hb1, hx2, k1, k2, n12⟩
 have HB := bwt HB hb1
 have KB := Lib.hid k1
 have KG := Lib.hid k2
 have HX2 := Lib.hid hx2
 clear hx2 k1 k2
 clear hb1 n12
 go_wp2_with fail
 refine (limits_any _).mono ?_
 rintro e1 w2 ⟨rfl, hb1⟩
 have HB := bwt HB hb1
 have KB := Lib.hid (KB.out.below hb1)
 have KG := Lib.hid (KG.out.below hb1)
 clear hb1
 go_wp2_with fail
 refine (HCI.out b1 b2 w2 (br0_of KB.out) (gr0_of KG.out)).mono ?_
 rintro e3 w3 ⟨a1, n1, c1, rfl, hb3, hr1⟩
 have HB := bwt HB hb3
 have HR1 := Lib.hid hr1
 clear hb3 hr1 KB KG HX2 HCI
 go_wp2_with fail
 refine (machine_any _).mono ?_
 rintro e1 w4 ⟨b3, b4, rfl, hb1, hx2, k1, k2, n12⟩
 have HB := bwt HB hb1
 have KB := Lib.hid k1
 have KG := Lib.hid k2
 have HX2 := Lib.hid hx2
 clear hx2 k1 k2
 have HR1 := Lib.hid (HR1.out.below hb1)
 clear hb1 n12
 go_wp2_with fail
 refine (limits_any _).mono ?_
 rintro e1 w5 ⟨rfl, hb1⟩
 have HB := bwt HB hb1
 have KB := Lib.hid (KB.out.below hb1)
 have KG := Lib.hid (KG.out.below hb1)
 have HR1 := Lib.hid (HR1.out.below hb1)
 clear hb1
 go_wp2_with fail
 refine (HIN.out b3 b4 w5 (br0_of KB.out) (gr0_of KG.out)).mono ?_
 rintro e3 w6 ⟨a3, n3, c3, rfl, hb3, hr3⟩
 have HB := bwt HB hb3
 have HR1 := Lib.hid (HR1.out.below hb3)
 have HR3 := Lib.hid hr3
 clear hb3 hr3 KB KG HX2 HIN
 go_wp2_with fail
 have hw6 := HB.out.size
 refine (machine_any _).mono ?_
 rintro e1 w7 ⟨b5, b6, rfl, hb1, hx2, k1, k2, n12⟩
 have HB := bwt HB hb1
 have KB := Lib.hid k1
 have KG := Lib.hid k2
 have HX2 := Lib.hid hx2
 clear hx2 k1 k2
 have HW6 := Lib.hid hb1
 have hwb6 : w6.heap.size ≤ b6 := HX2.out
 have hwb : w.heap.size ≤ b6 := Nat.le_trans hw6 hwb6
 have HN56 := Lib.hid n12
 have g15 := blk_cell KG.out (i := 15) rfl
 have f15 := blk_fz KG.out 15
 have l6 := KG.out.lt
 clear hb1 n12 HX2
 go_wp2_with fail
 obtain ⟨w8, hW8⟩ : ∃ w8, w8 = (w7.setCell ⟨b6, 15, none⟩ (.int .i64 1)).alloc (Obj.cells #[.slice (some ⟨b5, 0, none⟩) 4 4, .int .i64 3, .slice (some ⟨b6, 0, none⟩) 4 4] 45) := ⟨_, rfl⟩
 rw [← hW8]
 have ha8 : Below (w7.setCell ⟨b6, 15, none⟩ (.int .i64 1)).heap.size (w7.setCell ⟨b6, 15, none⟩ (.int .i64 1)) w8 := by rw [hW8]; exact (Below.refl _ _).alloc (Nat.le_refl _) _
 have kb : BlkR w8 b5 (.cells brs0 126) := blk_below ((heap_set_neI HN56.out).trans KB.out) ha8
 have kg : BlkR w8 b6 (.cells grs1 77) := blk_below (show (w7.setCell ⟨b6, 15, none⟩ (.int .i64 1)).heap[b6]? = some (.cells grs1 77) from blk_set KG.out 15 (.int .i64 1)) ha8
 have k5 : BlkR w8 w7.heap.size (.cells #[.slice (some ⟨b5, 0, none⟩) 4 4, .int .i64 3, .slice (some ⟨b6, 0, none⟩) 4 4] 45) := by
  have := heap_alloc_new (w7.setCell ⟨b6, 15, none⟩ (.int .i64 1)) (Obj.cells #[.slice (some ⟨b5, 0, none⟩) 4 4, .int .i64 3, .slice (some ⟨b6, 0, none⟩) 4 4] 45)
  rw [World.size_setCell, ← hW8] at this
  exact this
 have hb68 : Below w6.heap.size w6 w8 := by
  have h1 : Below w6.heap.size w6 (w7.setCell ⟨b6, 15, none⟩ (.int .i64 1)) := HW6.out.setCell hwb6 _
  exact h1.trans (ha8.mono h1.size)
 obtain ⟨X5, hX5⟩ : ∃ X, X = w7.heap.size := ⟨_, rfl⟩
 rw [← hX5] at k5
 simp only [← hX5]
 have KB := Lib.hid kb
 have KG := Lib.hid kg
 have HR1 := Lib.hid (HR1.out.below hb68)
 have HR3 := Lib.hid (IntsR.below HR3.out hb68)
 have hb3w := hb68
 have HB8 := Lib.hid (show Below w.heap.size w w8 from by
  have h1 : Below w.heap.size w (w7.setCell ⟨b6, 15, none⟩ (.int .i64 1)) := HB.out.setCell hwb _
  exact h1.trans (ha8.mono h1.size))
 obtain ⟨d0, d1, d2, l5⟩ := blkc3 k5
 clear hW8 ha8 kb kg k5 hb68 hX5 g15 f15 l6 HW6 HN56 HB hb3w hwb hwb6 hw6
 go_cut [6, 7] from 29 to 34 (fun v6 v7 wx => ∃ a6 n6 c6, v6 = .slice a6 n6 c6 ∧ v7 = .int .i64 0 ∧ Hid (IntsR wx a6 n6 [0, 2, 3]) ∧ Hid (Below w8.heap.size w8 wx))
 case first =>
  have HN := Lib.hid (Below.refl w8.heap.size w8).drew
  refine wp_region_laterT (B := w8.heap.size) (.head 0 (.one 1 (.one 2 (.head 3 (.head 4 (.head 5 (.head 6 (.head 7 .done)))))))) (by kernel_rfl) (by kernel_rfl) ?_
  repeat (refine tree_head rfl ?_; (show wpQuiet _ _ _ _ (_ :: _) _; go_big_quiet_step (fail)); refine wpQuiet_nil ?_)
  refine tree_one rfl ?_
  go_wp2_with fail
  refine (limits_any _).mono ?_
  rintro e1 wx1 ⟨rfl, hbx⟩
  have hzx := hbx.size
  have HN := bwt HN hbx
  clear hbx
  go_wp2_with fail
  refine tailL_mk HN.out ?_
  refine tree_one rfl ?_
  go_wp2_with fail
  refine (HFO.out _ _ _ (br0_of (KB.out.below HN.out)) (gr1_of (KG.out.below HN.out))).mono ?_
  rintro e1 wx2 ⟨a6, n6, c6, rfl, hbx, hr6⟩
  have HR6 := Lib.hid hr6
  clear hr6
  have hzx := hbx.size
  have HN := bwt HN hbx
  clear hbx
  go_wp2_with fail
  refine tailL_mk HN.out ?_
  repeat (refine tree_head rfl ?_; (show wpQuiet _ _ _ _ (_ :: _) _; go_big_quiet_step (fail)); refine wpQuiet_nil ?_)
  refine tree_done ?_
  go_wp2_with fail
  go_wp2_with fail
  go_meet
  case rel => exact ⟨a6, n6, c6, rfl, rfl, HR6, HN⟩
 case rest =>
  obtain ⟨w9, rfl⟩ : ∃ w', w' = wc := ⟨wc, rfl⟩
  obtain ⟨a6, n6, c6, rfl, rfl, HR6, HN⟩ := hcut
  have HB := bwt HB8 HN.out
  have HR1 := Lib.hid (HR1.out.below HN.out)
  have HR3 := Lib.hid (IntsR.below HR3.out HN.out)
  clear d0 d1 d2 l5 KB KG HN HB8 HFO
  go_wp2_with fail
  refine (regulator_any _).mono ?_
  rintro e10 w10 ⟨rfl, hb10⟩
  have HB := bwt HB hb10
  have HR1 := Lib.hid (HR1.out.below hb10)
  have HR3 := Lib.hid (IntsR.below HR3.out hb10)
  have HR6 := Lib.hid (IntsR.below HR6.out hb10)
  clear hb10
  go_wp2_with fail
  refine (HSO.out _).mono ?_
  rintro e11 w11 ⟨rfl, hb11⟩
  have HB := bwt HB hb11
  have HR1 := Lib.hid (HR1.out.below hb11)
  have HR3 := Lib.hid (IntsR.below HR3.out hb11)
  have HR6 := Lib.hid (IntsR.below HR6.out hb11)
  clear hb11 HSO
  go_wp2_with fail
  obtain ⟨w12, hW12⟩ : ∃ w12, w12 = w11.alloc (Obj.cells #[.int .i64 4, .int .i64 2] 79) := ⟨_, rfl⟩
  rw [← hW12]
  have hb12 : Below w11.heap.size w11 w12 := by rw [hW12]; (first|exact bwg|go_size)
  have k8 : BlkR w12 w11.heap.size (.cells #[.int .i64 4, .int .i64 2] 79) := by show w12.heap[w11.heap.size]? = _; rw [hW12]; exact heap_alloc_new _ _
  obtain ⟨X8, hX8⟩ : ∃ X, X = w11.heap.size := ⟨_, rfl⟩
  rw [← hX8] at k8
  simp only [← hX8]
  have HB := bwt HB hb12
  have HR1 := Lib.hid (HR1.out.below hb12)
  have HR3 := Lib.hid (IntsR.below HR3.out hb12)
  have HR6 := Lib.hid (IntsR.below HR6.out hb12)
  have K8 := Lib.hid k8
  clear hW12 hb12 k8 hX8
  refine (regulator_any _).mono ?_
  rintro e13 w13 ⟨rfl, hb13⟩
  have HB := bwt HB hb13
  have HR1 := Lib.hid (HR1.out.below hb13)
  have HR3 := Lib.hid (IntsR.below HR3.out hb13)
  have HR6 := Lib.hid (IntsR.below HR6.out hb13)
  have K8 := Lib.hid (K8.out.below hb13)
  clear hb13
  go_wp2_with fail
  refine (regulator_any _).mono ?_
  rintro e14 w14 ⟨rfl, hb14⟩
  have HB := bwt HB hb14
  have HR1 := Lib.hid (HR1.out.below hb14)
  have HR3 := Lib.hid (IntsR.below HR3.out hb14)
  have HR6 := Lib.hid (IntsR.below HR6.out hb14)
  have K8 := Lib.hid (K8.out.below hb14)
  clear hb14
  go_wp2_with fail
  refine (HPR.out _).mono ?_
  rintro e15 w15 ⟨rfl, hb15⟩
  have HB := bwt HB hb15
  have HR1 := Lib.hid (HR1.out.below hb15)
  have HR3 := Lib.hid (IntsR.below HR3.out hb15)
  have HR6 := Lib.hid (IntsR.below HR6.out hb15)
  have K8 := Lib.hid (K8.out.below hb15)
  clear hb15 HPR
  go_wp2_with fail
  refine (whole_any 0 _).mono ?_
  rintro e16 w16 ⟨rfl, hb16⟩
  have HB := bwt HB hb16
  have HR1 := Lib.hid (HR1.out.below hb16)
  have HR3 := Lib.hid (IntsR.below HR3.out hb16)
  have HR6 := Lib.hid (IntsR.below HR6.out hb16)
  have K8 := Lib.hid (K8.out.below hb16)
  clear hb16
  go_wp2_with fail
  refine (whole_any 2 _).mono ?_
  rintro e17 w17 ⟨rfl, hb17⟩
  have HB := bwt HB hb17
  have HR1 := Lib.hid (HR1.out.below hb17)
  have HR3 := Lib.hid (IntsR.below HR3.out hb17)
  have HR6 := Lib.hid (IntsR.below HR6.out hb17)
  have K8 := Lib.hid (K8.out.below hb17)
  clear hb17
  go_wp2_with fail
  refine (whole_any 8 _).mono ?_
  rintro e18 w18 ⟨rfl, hb18⟩
  have HB := bwt HB hb18
  have HR1 := Lib.hid (HR1.out.below hb18)
  have HR3 := Lib.hid (IntsR.below HR3.out hb18)
  have HR6 := Lib.hid (IntsR.below HR6.out hb18)
  have K8 := Lib.hid (K8.out.below hb18)
  clear hb18
  go_wp2_with fail
  refine (whole_any 0 _).mono ?_
  rintro e19 w19 ⟨rfl, hb19⟩
  have HB := bwt HB hb19
  have HR1 := Lib.hid (HR1.out.below hb19)
  have HR3 := Lib.hid (IntsR.below HR3.out hb19)
  have HR6 := Lib.hid (IntsR.below HR6.out hb19)
  have K8 := Lib.hid (K8.out.below hb19)
  clear hb19
  go_wp2_with fail
  obtain ⟨w20, hW20⟩ : ∃ w20, w20 = w19.alloc (Obj.cells #[.int .i64 0, .int .i64 1, .int .i64 2, .int .i64 1, .int .i64 8, .int .i64 1, .int .i64 0, .int .i64 1] 85) := ⟨_, rfl⟩
  rw [← hW20]
  have hb20 : Below w19.heap.size w19 w20 := by rw [hW20]; (first|exact bwg|go_size)
  have hp20 : PairsR w20 (some ⟨w19.heap.size, 0, none⟩) 4 [(0, 1), (2, 1), (8, 1), (0, 1)] := by
   rw [hW20]
   exact SlR.of_blk (heap_alloc_new _ _) rfl (by unfold maxLen; omega)
  have HB := bwt HB hb20
  have HR1 := Lib.hid (HR1.out.below hb20)
  have HR3 := Lib.hid (IntsR.below HR3.out hb20)
  have HR6 := Lib.hid (IntsR.below HR6.out hb20)
  have K8 := Lib.hid (K8.out.below hb20)
  clear hb20
  refine (fracs_any _ _ _ _ _ _ _ _ _ HR1.out hp20).mono ?_
  clear hp20 hW20
  rintro e21 w21 ⟨rfl, m21, rfl⟩
  have hb21 : Below w20.heap.size w20 (w20.drewN m21) := by (first|exact bwg|go_size)
  have HB := bwt HB hb21
  have HR1 := Lib.hid (HR1.out.below hb21)
  have HR3 := Lib.hid (IntsR.below HR3.out hb21)
  have HR6 := Lib.hid (IntsR.below HR6.out hb21)
  have K8 := Lib.hid (K8.out.below hb21)
  clear hb21
  generalize w20.drewN m21 = w21 at *
  go_wp2_with fail
  obtain ⟨w22, hW22⟩ : ∃ w22, w22 = w21.alloc (Obj.cells #[.int .i64 2, .int .i64 3, .int .i64 4, .int .i64 6, .int .i64 12] 3) := ⟨_, rfl⟩
  rw [← hW22]
  have hb22 : Below w21.heap.size w21 w22 := by rw [hW22]; (first|exact bwg|go_size)
  have hp22 : IntsR w22 (some ⟨w21.heap.size, 0, none⟩) 5 [2, 3, 4, 6, 12] := by
   rw [hW22]
   exact SlR.of_blk (heap_alloc_new _ _) rfl (by unfold maxLen; omega)
  have HB := bwt HB hb22
  have HR1 := Lib.hid (HR1.out.below hb22)
  have HR3 := Lib.hid (IntsR.below HR3.out hb22)
  have HR6 := Lib.hid (IntsR.below HR6.out hb22)
  have K8 := Lib.hid (K8.out.below hb22)
  clear hb22
  refine (ints_any _ _ _ _ _ _ _ _ _ HR3.out hp22).mono ?_
  clear hp22 hW22
  rintro e23 w23 ⟨rfl, m23, rfl⟩
  have hb23 : Below w22.heap.size w22 (w22.drewN m23) := by (first|exact bwg|go_size)
  have HB := bwt HB hb23
  have HR1 := Lib.hid (HR1.out.below hb23)
  have HR3 := Lib.hid (IntsR.below HR3.out hb23)
  have HR6 := Lib.hid (IntsR.below HR6.out hb23)
  have K8 := Lib.hid (K8.out.below hb23)
  clear hb23
  generalize w22.drewN m23 = w23 at *
  go_wp2_with fail
  obtain ⟨w24, hW24⟩ : ∃ w24, w24 = w23.alloc (Obj.cells #[.int .i64 0, .int .i64 2, .int .i64 3] 3) := ⟨_, rfl⟩
  rw [← hW24]
  have hb24 : Below w23.heap.size w23 w24 := by rw [hW24]; (first|exact bwg|go_size)
  have hp24 : IntsR w24 (some ⟨w23.heap.size, 0, none⟩) 3 [0, 2, 3] := by
   rw [hW24]
   exact SlR.of_blk (heap_alloc_new _ _) rfl (by unfold maxLen; omega)
  have HB := bwt HB hb24
  have HR1 := Lib.hid (HR1.out.below hb24)
  have HR3 := Lib.hid (IntsR.below HR3.out hb24)
  have HR6 := Lib.hid (IntsR.below HR6.out hb24)
  have K8 := Lib.hid (K8.out.below hb24)
  clear hb24
  refine (ints_any _ _ _ _ _ _ _ _ _ HR6.out hp24).mono ?_
  clear hp24 hW24
  rintro e25 w25 ⟨rfl, m25, rfl⟩
  have hb25 : Below w24.heap.size w24 (w24.drewN m25) := by (first|exact bwg|go_size)
  have HB := bwt HB hb25
  have HR1 := Lib.hid (HR1.out.below hb25)
  have HR3 := Lib.hid (IntsR.below HR3.out hb25)
  have HR6 := Lib.hid (IntsR.below HR6.out hb25)
  have K8 := Lib.hid (K8.out.below hb25)
  clear hb25
  generalize w24.drewN m25 = w25 at *
  obtain ⟨d0, d1, l8⟩ := blkc2 K8.out
  go_wp2
  go_ret
  exact ⟨ret_bool (by simp), HB.out⟩
end Go.Proofs.YtdjinmieogpgcaaGreat
