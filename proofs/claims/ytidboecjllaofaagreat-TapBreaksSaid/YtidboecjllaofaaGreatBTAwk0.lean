import Derived.Test.YtidboecjllaofaaGreatBTElx
import Derived.Test.YtidboecjllaofaaGreatBTReg1
import Derived.Test.YtidboecjllaofaaGreatBTRow
import Derived.Test.YtidboecjllaofaaGreatBTRst
/- The examples of the chapter: machine, limits, regulator; what the plain words give for them. -/
namespace Go.Proofs.YtidboecjllaofaaGreat
open Go.RowKit Go.Shelf
set_option linter.unusedVariables false
set_option linter.unusedSimpArgs false
theorem SlR.of_blk {w : World} {b t n sz : Nat} {cs : Array Value} (h : w.heap[b]? = some (.cells cs t)) (hl : cs.size = n * sz) (hn : n ≤ maxLen) : SlR w (some ⟨b, 0, none⟩) n sz cs.toList := by
 refine ⟨by simpa using hl, hn, fun _ => ⟨b, 0, rfl, (Array.getElem?_eq_some_iff.1 h).1, fun i u hu => ?_⟩⟩
 rw [Nat.zero_add, cell_of_row _ _ _ _ _ _ h]
 simpa using hu
def mac0 : Mac := ⟨[⟨0, 0⟩, ⟨0, 2⟩, ⟨1, 2⟩, ⟨1, 0⟩], 3, [⟨0, false, 2, 12⟩, ⟨2, true, 2, 9⟩, ⟨1, false, 4, 9⟩, ⟨3, true, 4, 3⟩]⟩
def mac1 : Mac := ⟨[⟨0, 0⟩, ⟨0, 2⟩, ⟨1, 2⟩, ⟨1, 0⟩], 3, [⟨0, false, 2, 12⟩, ⟨2, true, 2, 9⟩, ⟨1, false, 4, 9⟩, ⟨3, true, 4, 1⟩]⟩
def lim0 : Lim := ⟨12, 0, 10, 4, 10, 30⟩
def reg0 : Reg := ⟨100, 3, 2, 5, -4, 4⟩
set_option maxRecDepth 100000 in
theorem cur0_e : eleE mac0 lim0 6 10 = 0 := by decide
set_option maxRecDepth 100000 in
theorem cur0 : curT mac0 lim0 6 10 = [(0, 1), (2, 1), (8, 1), (0, 1)] := by decide
set_option maxRecDepth 100000 in
theorem opn0 : opnE mac0 lim0 = 0 := by decide
set_option maxRecDepth 100000 in
theorem opn1 : opnE mac1 lim0 = 0 := by decide
set_option maxRecDepth 100000 in
theorem saf0 : safE mac0 lim0 3 = 0 := by decide
set_option maxRecDepth 100000 in
theorem fai0_5 : faiF mac0 5 = [(3, []), (2, [0]), (6, [0, 2]), (4, [0, 2, 1]), (12, [0, 2, 1, 3])] := by decide
set_option maxRecDepth 100000 in
theorem faiK0 : ∀ k, k < 5 → faiK mac0 lim0 k = none := by decide
theorem fai0 : faiV mac0 lim0 = none := by
 unfold faiV
 rw [show mac0.st.toNat = 3 from rfl, saf0, if_neg (by simp)]
 have h := faiK0
 rw [show (64 : Nat) = 64 - 0 from rfl, faiFrom_step (by omega) (h 0 (by omega)), faiFrom_step (by omega) (h 1 (by omega)), faiFrom_step (by omega) (h 2 (by omega)), faiFrom_step (by omega) (h 3 (by omega)), faiFrom_step (by omega) (h 4 (by omega))]
 exact faiFrom_none (k := 5) (by rw [fai0_5]; decide) (64 - 5) 0
theorem inv0_e : invE mac0 lim0 = 0 := by
 unfold invE
 rw [opn0, fai0]
 rfl
set_option maxRecDepth 100000 in
theorem inv0 : invL mac0 lim0 = [2, 3, 4, 6, 12] := by
 unfold invL
 rw [inv0_e, if_neg (by simp)]
 have h5 : reaF mac0 5 = [3, 2, 6, 4, 12] := by rw [← faiF_keys, fai0_5]; rfl
 have hA : reaA mac0 = [3, 2, 6, 4, 12] := by rw [← h5]; exact (reaF_all (opnE_zero opn0).1 (by rw [h5]; decide) (by omega)).symm
 unfold reaS
 rw [hA]
 decide
set_option maxRecDepth 100000 in
theorem saf1 : safE mac1 lim0 3 = 0 := by decide
set_option maxRecDepth 100000 in
theorem faiK1 : ∀ k, k < 2 → faiK mac1 lim0 k = none := by decide
set_option maxRecDepth 100000 in
theorem faiK2 : faiK mac1 lim0 2 = some [0, 2, 3] := by decide
theorem fai1 : faiV mac1 lim0 = some [0, 2, 3] := by
 unfold faiV
 rw [show mac1.st.toNat = 3 from rfl, saf1, if_neg (by simp)]
 have h := faiK1
 rw [show (64 : Nat) = 64 - 0 from rfl, faiFrom_step (by omega) (h 0 (by omega)), faiFrom_step (by omega) (h 1 (by omega))]
 exact faiFrom_found (by omega) faiK2
theorem fail1_e : failE mac1 lim0 = 0 := by
 unfold failE
 rw [opn1, fai1]
 rfl
theorem fail1 : failL mac1 lim0 = [0, 2, 3] := by
 unfold failL
 rw [opn1, fai1]
 rfl
set_option maxRecDepth 100000 in
theorem rep0 : Rep (tick reg0 90) ⟨0, 0⟩ 5 4 := ⟨by omega, by decide, fun i j h1 h2 => by
 have : ∀ j, j < 5 → ∀ i, i < j → itr (tick reg0 90) ⟨0, 0⟩ i ≠ itr (tick reg0 90) ⟨0, 0⟩ j := by decide
 exact this j h2 i h1⟩
set_option maxRecDepth 100000 in
theorem set0 : lastM (tick reg0 90) (mvT reg0 90) ⟨0, 0⟩ 5 = 4 ∧ (itr (tick reg0 90) ⟨0, 0⟩ 5).tap = 2 := by decide
def pai0 : Pai := ⟨reg0, reg0, ⟨0, 0⟩, ⟨0, 0⟩⟩
set_option maxRecDepth 100000 in
theorem repP0 : Rep (tickP 90) pai0 5 4 := ⟨by omega, by decide, fun i j h1 h2 => by
 have : ∀ j, j < 5 → ∀ i, i < j → itr (tickP 90) pai0 i ≠ itr (tickP 90) pai0 j := by decide
 exact this j h2 i h1⟩
set_option maxRecDepth 100000 in
theorem setP0 : lastM (tickP 90) (mvP 90) pai0 5 = 4 := by decide
theorem whole_any (n : Int) (w : World) : Calls Tryz.prog 35 #[.int .i64 n] w fun e' w' => e' = .returned (.agg #[.int .i64 n, .int .i64 1]) ∧ Below w.heap.size w w' := by
 go_enter Tryz.func35, Tryz.ntmps35
 go_wp2
 refine bodyPost_ret (v := .agg #[.int .i64 n, .int .i64 1]) (by simp [results, Tryz.results35, go_sem]) rfl ⟨rfl, by (repeat' first|(with_reducible first|exact bw1|assumption|refine bw2 ?_ _|refine bw3 ?_ ?_ _|refine bw4 ?_|refine bw5 ?_ ?_ _|refine bw6 (by assumption) ?_ ?_|exact And.left (by assumption))|go_size)⟩
theorem limits_any (w : World) : Calls Tryz.prog 88 #[] w fun e' w' => e' = .returned (.agg #[.int .i64 12, .int .i64 0, .int .i64 10, .int .i64 4, .int .i64 10, .int .i64 30]) ∧ Below w.heap.size w w' := by
 go_enter Tryz.func88, Tryz.ntmps88
 go_wp2
 refine bodyPost_ret (v := .agg #[.int .i64 12, .int .i64 0, .int .i64 10, .int .i64 4, .int .i64 10, .int .i64 30]) (by simp [results, Tryz.results88, go_sem]) rfl ⟨rfl, by (repeat' first|(with_reducible first|exact bw1|assumption|refine bw2 ?_ _|refine bw3 ?_ ?_ _|refine bw4 ?_|refine bw5 ?_ ?_ _|refine bw6 (by assumption) ?_ ?_|exact And.left (by assumption))|go_size)⟩
theorem regulator_any (w : World) : Calls Tryz.prog 89 #[] w fun e' w' => e' = .returned (.agg #[.int .i64 100, .int .i64 3, .int .i64 2, .int .i64 5, .int .i64 (-4), .int .i64 4]) ∧ Below w.heap.size w w' := by
 go_enter Tryz.func89, Tryz.ntmps89
 go_wp2
 refine bodyPost_ret (v := .agg #[.int .i64 100, .int .i64 3, .int .i64 2, .int .i64 5, .int .i64 (-4), .int .i64 4]) (by simp [results, Tryz.results89, go_sem]) rfl ⟨rfl, by (repeat' first|(with_reducible first|exact bw1|assumption|refine bw2 ?_ _|refine bw3 ?_ ?_ _|refine bw4 ?_|refine bw5 ?_ ?_ _|refine bw6 (by assumption) ?_ ?_|exact And.left (by assumption))|go_size)⟩
def brs0 : Array Value := #[.int .i64 0, .int .i64 0, .int .i64 0, .int .i64 2, .int .i64 1, .int .i64 2, .int .i64 1, .int .i64 0]
def grs0 : Array Value := #[.int .i64 0, .bool false, .int .i64 2, .int .i64 12, .int .i64 2, .bool true, .int .i64 2, .int .i64 9, .int .i64 1, .bool false, .int .i64 4, .int .i64 9, .int .i64 3, .bool true, .int .i64 4, .int .i64 3]
def grs1 : Array Value := #[.int .i64 0, .bool false, .int .i64 2, .int .i64 12, .int .i64 2, .bool true, .int .i64 2, .int .i64 9, .int .i64 1, .bool false, .int .i64 4, .int .i64 9, .int .i64 3, .bool true, .int .i64 4, .int .i64 1]
theorem br0_of {w : World} {b : Nat} (h : BlkR w b (.cells brs0 73)) : BrR w (some ⟨b, 0, none⟩) 4 mac0.br := ⟨rfl, SlR.of_blk h rfl (by unfold maxLen; omega)⟩
theorem gr0_of {w : World} {b : Nat} (h : BlkR w b (.cells grs0 152)) : GrR w (some ⟨b, 0, none⟩) 4 mac0.gs := ⟨rfl, SlR.of_blk h rfl (by unfold maxLen; omega)⟩
theorem gr1_of {w : World} {b : Nat} (h : BlkR w b (.cells grs1 152)) : GrR w (some ⟨b, 0, none⟩) 4 mac1.gs := ⟨rfl, SlR.of_blk h rfl (by unfold maxLen; omega)⟩
set_option maxRecDepth 100000 in
theorem machine_any (w : World) : Calls Tryz.prog 87 #[] w fun e' w' => ∃ b1 b2, e' = .returned (.agg #[.slice (some ⟨b1, 0, none⟩) 4 4, .int .i64 3, .slice (some ⟨b2, 0, none⟩) 4 4]) ∧ Below w.heap.size w w' ∧ w.heap.size ≤ b2 ∧ BlkR w' b1 (.cells brs0 73) ∧ BlkR w' b2 (.cells grs0 152) ∧ b1 ≠ b2 := by
 go_enter Tryz.func87, Tryz.ntmps87
 go_wp2
 refine bodyPost_ret (v := .agg #[.slice (some ⟨w.heap.size + 1, 0, none⟩) 4 4, .int .i64 3, .slice (some ⟨w.heap.size + 1 + 1, 0, none⟩) 4 4]) (by simp [results, Tryz.results87, go_sem]) rfl ⟨w.heap.size + 1, w.heap.size + 1 + 1, rfl, by (repeat' first|(with_reducible first|exact bw1|assumption|refine bw2 ?_ _|refine bw3 ?_ ?_ _|refine bw4 ?_|refine bw5 ?_ ?_ _|refine bw6 (by assumption) ?_ ?_|exact And.left (by assumption))|go_size), by omega, ?_, ?_, by omega⟩
 ·have := heap_alloc_new (w.alloc (Obj.cells #[.slice (some ⟨w.heap.size + 1, 0, none⟩) 4 4, .int .i64 3, .slice (some ⟨w.heap.size + 1 + 1, 0, none⟩) 4 4] 45)) (Obj.cells brs0 73)
  rw [World.size_alloc] at this
  exact (Below.heap_alloc _ _ _ (by simp)).trans this
 ·have := heap_alloc_new ((w.alloc (Obj.cells #[.slice (some ⟨w.heap.size + 1, 0, none⟩) 4 4, .int .i64 3, .slice (some ⟨w.heap.size + 1 + 1, 0, none⟩) 4 4] 45)).alloc (Obj.cells brs0 73)) (Obj.cells grs0 152)
  rw [World.size_alloc, World.size_alloc] at this
  exact this
end Go.Proofs.YtidboecjllaofaaGreat

/- Settlings, and when pairs rest: the program's exported functions. -/
namespace Go.Proofs.YtidboecjllaofaaGreat
open Go.RowKit Go.Shelf
set_option linter.unusedVariables false
set_option linter.unusedSimpArgs false
def SetP (r : Reg) (m : Mom) (d : Int) (t x : Int) (b : Bool) : Prop := ∃ T fr, Rep (tick r d) m T fr ∧ t = ((lastM (tick r d) (mvT r d) m T : Nat) : Int) ∧ x = (itr (tick r d) m T).tap ∧ b = decide (lastM (tick r d) (mvT r d) m T ≤ fr)
set_option maxHeartbeats 1000000 in
set_option maxRecDepth 100000 in
theorem settling_any (r : Reg) (m : Mom) (d : Int) (w : World) (hr : RegV r) (hm : MomV r m) (hd : -10000 ≤ d ∧ d ≤ 10000) :
    Calls Tryz.prog 146 #[.agg #[.int .i64 r.tgt, .int .i64 r.band, .int .i64 r.dly, .int .i64 r.stp, .int .i64 r.lo, .int .i64 r.hi], .agg #[.int .i64 m.tap, .int .i64 m.wait], .int .i64 d] w
     fun e' w' => Below w.heap.size w w' ∧ ∃ t x b, SetP r m d t x b ∧ e' = .returned (.tuple #[.agg #[.int .i64 t, .int .i64 x], .bool b]) := by
 have HR := Lib.hid (fun (XR XD : Nat) (W : World) (h1 : BlkR W XR (.cells #[.int .i64 r.tgt, .int .i64 r.band, .int .i64 r.dly, .int .i64 r.stp, .int .i64 r.lo, .int .i64 r.hi] 25)) (h2 : BlkR W XD (.cells #[.int .i64 d] 3)) => restM_any r m d XR XD W hr hm hd h1 h2)
 have HSP := Lib.hid (fun (T fr : Nat) (h : Rep (tick r d) m T fr) => show SetP r m d _ _ _ from ⟨T, fr, h, rfl, rfl, rfl⟩)
 generalize itr (tick r d) m = ST at *
 generalize hsp : SetP r m d = SP at *
 generalize hrp : Rep (tick r d) m = RP at *
 generalize lastM (tick r d) (mvT r d) m = LA at *
 obtain ⟨tgt, band, dly, stp, lo, hi⟩ := r
 obtain ⟨tap, wait⟩ := m
 simp only at HR ⊢
 clear hr hm hd hsp hrp
 go_enter Tryz.func146, Tryz.ntmps146
 go_wp2_with fail
 obtain ⟨w4, hW4⟩ : ∃ w4, w4 = (((w.alloc (Obj.cells #[.int .i64 tgt, .int .i64 band, .int .i64 dly, .int .i64 stp, .int .i64 lo, .int .i64 hi] 25)).alloc (Obj.cells #[.int .i64 tap, .int .i64 wait] 27)).alloc (Obj.cells #[.int .i64 d] 3)).alloc (Obj.cells #[.int .i64 0, .int .i64 0] 125) := ⟨_, rfl⟩
 rw [← hW4]
 have hb4 : Below w.heap.size w w4 := by rw [hW4]; (repeat' first|(with_reducible first|exact bw1|assumption|refine bw2 ?_ _|refine bw3 ?_ ?_ _|refine bw4 ?_|refine bw5 ?_ ?_ _|refine bw6 (by assumption) ?_ ?_|exact And.left (by assumption))|go_size)
 have k3 : BlkR w4 w.heap.size (.cells #[.int .i64 tgt, .int .i64 band, .int .i64 dly, .int .i64 stp, .int .i64 lo, .int .i64 hi] 25) := by
  show w4.heap[w.heap.size]? = _
  rw [hW4, Below.heap_alloc _ _ _ (by first | (simp; done) | (simp; omega)), Below.heap_alloc _ _ _ (by first | (simp; done) | (simp; omega)), Below.heap_alloc _ _ _ (by simp)]
  exact heap_alloc_new _ _
 have k4 : BlkR w4 (w.heap.size + 1) (.cells #[.int .i64 tap, .int .i64 wait] 27) := by
  show w4.heap[w.heap.size + 1]? = _
  rw [hW4, Below.heap_alloc _ _ _ (by first | (simp; done) | (simp; omega)), Below.heap_alloc _ _ _ (by simp)]
  have := heap_alloc_new (w.alloc (Obj.cells #[.int .i64 tgt, .int .i64 band, .int .i64 dly, .int .i64 stp, .int .i64 lo, .int .i64 hi] 25)) (Obj.cells #[.int .i64 tap, .int .i64 wait] 27)
  simpa using this
 have k5 : BlkR w4 (w.heap.size + 1 + 1) (.cells #[.int .i64 d] 3) := by
  show w4.heap[w.heap.size + 1 + 1]? = _
  rw [hW4, Below.heap_alloc _ _ _ (by simp)]
  have := heap_alloc_new ((w.alloc (Obj.cells #[.int .i64 tgt, .int .i64 band, .int .i64 dly, .int .i64 stp, .int .i64 lo, .int .i64 hi] 25)).alloc (Obj.cells #[.int .i64 tap, .int .i64 wait] 27)) (Obj.cells #[.int .i64 d] 3)
  simpa using this
 have k6 : BlkR w4 (w.heap.size + 1 + 1 + 1) (.cells #[.int .i64 0, .int .i64 0] 125) := by
  show w4.heap[w.heap.size + 1 + 1 + 1]? = _
  rw [hW4]
  have := heap_alloc_new (((w.alloc (Obj.cells #[.int .i64 tgt, .int .i64 band, .int .i64 dly, .int .i64 stp, .int .i64 lo, .int .i64 hi] 25)).alloc (Obj.cells #[.int .i64 tap, .int .i64 wait] 27)).alloc (Obj.cells #[.int .i64 d] 3)) (Obj.cells #[.int .i64 0, .int .i64 0] 125)
  simpa using this
 obtain ⟨X3, hX3⟩ : ∃ X, X = w.heap.size := ⟨_, rfl⟩
 obtain ⟨X4, hX4⟩ : ∃ X, X = w.heap.size + 1 := ⟨_, rfl⟩
 obtain ⟨X5, hX5⟩ : ∃ X, X = w.heap.size + 1 + 1 := ⟨_, rfl⟩
 obtain ⟨X6, hX6⟩ : ∃ X, X = w.heap.size + 1 + 1 + 1 := ⟨_, rfl⟩
 rw [← hX6] at k6
 rw [← hX5] at k5
 rw [← hX4] at k4
 rw [← hX3] at k3
 simp only [← hX6]
 simp only [← hX5]
 simp only [← hX4]
 simp only [← hX3]
 have hw4 : w.heap.size ≤ X4 := by omega
 have hw6 : w.heap.size ≤ X6 := by omega
 have n46 : X4 ≠ X6 := by omega
 have HRW := Lib.hid (HR.out X3 X5 w4 k3 k5)
 clear hW4 hX3 hX4 hX5 hX6 k3 k5 HR
 refine HRW.out.mono ?_
 rintro e5 w5 ⟨hb5, T, fr, hrp, rfl⟩
 have HS := Lib.hid (HSP.out T fr hrp)
 have K4 := Lib.hid (k4.below hb5)
 have K6 := Lib.hid (k6.below hb5)
 have HB := Lib.hid (hb4.trans (hb5.mono hb4.size))
 obtain ⟨c0, c1, _⟩ := blkc2 K4.out
 have f0 := blk_fz K4.out 0
 have f1 := blk_fz K4.out 1
 have l4 := K4.out.lt
 obtain ⟨d0, d1, _⟩ := blkc2 K6.out
 have g0 := blk_fz K6.out 0
 have g1 := blk_fz K6.out 1
 have l6 := K6.out.lt
 generalize decide (LA T ≤ fr) = rb at *
 generalize LA T = la at *
 generalize ST T = S at *
 obtain ⟨s1, s2⟩ := S
 simp only at HS
 clear k4 k6 hb5 hb4 HRW HSP hrp
 go_wp2
 have kA := blk_set (blk_set K4.out 0 (.int .i64 s1)) 1 (.int .i64 s2)
 have k6' : ((w5.setCell ⟨X4, 0, none⟩ (.int .i64 s1)).setCell ⟨X4, 1, none⟩ (.int .i64 s2)).heap[X6]? = _ := (heap_set_neI n46.symm).trans ((heap_set_neI n46.symm).trans K6.out)
 have hbw : Below w.heap.size w ((w5.setCell ⟨X4, 0, none⟩ (.int .i64 s1)).setCell ⟨X4, 1, none⟩ (.int .i64 s2)) := (HB.out.setCell hw4 _).setCell hw4 _
 have kw := blk_set (blk_set k6' 0 (.int .i64 (la : Int))) 1 (.int .i64 s1)
 obtain ⟨r0, r1, _⟩ := blkc2 kw
 refine bodyPost_ret (v := .tuple #[.agg #[.int .i64 (la : Int), .int .i64 s1], .bool rb]) (by simp [results, Tryz.results146, go_sem, r0, r1]) rfl ⟨(hbw.setCell hw6 _).setCell hw6 _, _, _, _, HS.out, rfl⟩
def SetO (r : Reg) (m : Mom) (d t x e : Int) : Prop := (rgdE r m d ≠ 0 ∧ t = 0 ∧ x = 0 ∧ e = rgdE r m d) ∨ (rgdE r m d = 0 ∧ ∃ t' x' b, SetP r m d t' x' b ∧ ((b = true ∧ t = t' ∧ x = x' ∧ e = 0) ∨ (b = false ∧ t = 0 ∧ x = 0 ∧ e = 21)))
theorem rgdE_zero {r : Reg} {m : Mom} {d : Int} (h : rgdE r m d = 0) : RegV r ∧ MomV r m ∧ -10000 ≤ d ∧ d ≤ 10000 := by
 unfold rgdE at h
 rw [firstErr_zero', firstErr_zero', firstErr_zero', regE_zero, momE_zero, swE_zero] at h
 exact ⟨h.1, h.2.1, h.2.2.1⟩
set_option maxHeartbeats 1000000 in
set_option maxRecDepth 100000 in
theorem settlingOf_any (r : Reg) (m : Mom) (d : Int) (w : World) :
    Calls Tryz.prog 75 #[.agg #[.int .i64 r.tgt, .int .i64 r.band, .int .i64 r.dly, .int .i64 r.stp, .int .i64 r.lo, .int .i64 r.hi], .agg #[.int .i64 m.tap, .int .i64 m.wait], .int .i64 d] w
     fun e' w' => Below w.heap.size w w' ∧ ∃ t x e, e' = .returned (.tuple #[.agg #[.int .i64 t, .int .i64 x], .int .i64 e]) ∧ SetO r m d t x e := by
 have HE := Lib.hid (fun (W : World) => regulated_any r m d W)
 have HS := Lib.hid (fun (h : rgdE r m d = 0) (W : World) => settling_any r m d W (rgdE_zero h).1 (rgdE_zero h).2.1 (rgdE_zero h).2.2)
 have HO1 := Lib.hid (fun (h : rgdE r m d ≠ 0) => show SetO r m d 0 0 (rgdE r m d) from .inl ⟨h, rfl, rfl, rfl⟩)
 have HO2 := Lib.hid (fun (h : rgdE r m d = 0) (t x : Int) (hs : SetP r m d t x true) => show SetO r m d t x 0 from .inr ⟨h, t, x, true, hs, .inl ⟨rfl, rfl, rfl, rfl⟩⟩)
 have HO3 := Lib.hid (fun (h : rgdE r m d = 0) (t x : Int) (hs : SetP r m d t x false) => show SetO r m d 0 0 21 from .inr ⟨h, t, x, false, hs, .inr ⟨rfl, rfl, rfl, rfl⟩⟩)
 generalize SetO r m d = SO at *
 generalize SetP r m d = SP at *
 generalize rgdE r m d = E at *
 obtain ⟨tgt, band, dly, stp, lo, hi⟩ := r
 obtain ⟨tap, wait⟩ := m
 simp only at HE HS ⊢
 go_enter Tryz.func75, Tryz.ntmps75
 go_wp2_with fail
 obtain ⟨w3, hW3⟩ : ∃ w3, w3 = ((w.alloc (Obj.cells #[.int .i64 tgt, .int .i64 band, .int .i64 dly, .int .i64 stp, .int .i64 lo, .int .i64 hi] 25)).alloc (Obj.cells #[.int .i64 tap, .int .i64 wait] 27)).alloc (Obj.cells #[.int .i64 0, .int .i64 0] 125) := ⟨_, rfl⟩
 rw [← hW3]
 have hb3 : Below w.heap.size w w3 := by rw [hW3]; (repeat' first|(with_reducible first|exact bw1|assumption|refine bw2 ?_ _|refine bw3 ?_ ?_ _|refine bw4 ?_|refine bw5 ?_ ?_ _|refine bw6 (by assumption) ?_ ?_|exact And.left (by assumption))|go_size)
 have k3 : BlkR w3 w.heap.size (.cells #[.int .i64 tgt, .int .i64 band, .int .i64 dly, .int .i64 stp, .int .i64 lo, .int .i64 hi] 25) := by
  show w3.heap[w.heap.size]? = _
  rw [hW3, Below.heap_alloc _ _ _ (by first | (simp; done) | (simp; omega)), Below.heap_alloc _ _ _ (by simp)]
  exact heap_alloc_new _ _
 have k4 : BlkR w3 (w.heap.size + 1) (.cells #[.int .i64 tap, .int .i64 wait] 27) := by
  show w3.heap[w.heap.size + 1]? = _
  rw [hW3, Below.heap_alloc _ _ _ (by simp)]
  have := heap_alloc_new (w.alloc (Obj.cells #[.int .i64 tgt, .int .i64 band, .int .i64 dly, .int .i64 stp, .int .i64 lo, .int .i64 hi] 25)) (Obj.cells #[.int .i64 tap, .int .i64 wait] 27)
  simpa using this
 have k6 : BlkR w3 (w.heap.size + 1 + 1) (.cells #[.int .i64 0, .int .i64 0] 125) := by
  show w3.heap[w.heap.size + 1 + 1]? = _
  rw [hW3]
  have := heap_alloc_new ((w.alloc (Obj.cells #[.int .i64 tgt, .int .i64 band, .int .i64 dly, .int .i64 stp, .int .i64 lo, .int .i64 hi] 25)).alloc (Obj.cells #[.int .i64 tap, .int .i64 wait] 27)) (Obj.cells #[.int .i64 0, .int .i64 0] 125)
  simpa using this
 obtain ⟨X3, hX3⟩ : ∃ X, X = w.heap.size := ⟨_, rfl⟩
 obtain ⟨X4, hX4⟩ : ∃ X, X = w.heap.size + 1 := ⟨_, rfl⟩
 obtain ⟨X6, hX6⟩ : ∃ X, X = w.heap.size + 1 + 1 := ⟨_, rfl⟩
 rw [← hX6] at k6
 rw [← hX4] at k4
 rw [← hX3] at k3
 simp only [← hX6]
 simp only [← hX4]
 simp only [← hX3]
 have hw6 : w.heap.size ≤ X6 := by omega
 clear hW3 hX3 hX4 hX6
 refine (HE.out w3).mono ?_
 rintro e5 w5 ⟨rfl, hb5⟩
 have K3 := Lib.hid (k3.below hb5)
 have K4 := Lib.hid (k4.below hb5)
 have K6 := Lib.hid (k6.below hb5)
 have HB := Lib.hid (hb3.trans (hb5.mono hb3.size))
 clear k3 k4 k6 hb3 hb5 HE
 by_cases h0 : E = 0
 ·subst h0
  have HSW := Lib.hid (HS.out rfl w5)
  obtain ⟨c0, c1, c2, c3, c4, c5, l3⟩ := blkc6 K3.out
  obtain ⟨m0, m1, l4⟩ := blkc2 K4.out
  clear HS
  go_wp2_with fail
  refine HSW.out.mono ?_
  rintro e7 w7 ⟨hb7, t, x, b, hsp, rfl⟩
  have HSP := Lib.hid hsp
  have n9 : X6 < w7.heap.size := Nat.lt_of_lt_of_le K6.out.lt hb7.size
  have hb8 : Below w5.heap.size w5 (w7.alloc (Obj.cells #[.int .i64 t, .int .i64 x] 125)) := Below.trans hb7 (show Below w5.heap.size w7 _ from (Below.refl _ _).alloc hb7.size _)
  have k9 : BlkR (w7.alloc (Obj.cells #[.int .i64 t, .int .i64 x] 125)) w7.heap.size (.cells #[.int .i64 t, .int .i64 x] 125) := heap_alloc_new _ _
  have K6 := Lib.hid (K6.out.below hb7)
  have HB := Lib.hid (HB.out.trans (hb7.mono HB.out.size))
  obtain ⟨d0, d1, _⟩ := blkc2 K6.out
  have g0 := blk_fz K6.out 0
  have g1 := blk_fz K6.out 1
  have l6 := K6.out.lt
  have K9 := Lib.hid k9
  clear c0 c1 c2 c3 c4 c5 l3 m0 m1 l4 hb7 hb8 k9 hsp
  cases b
  ·have HSO := Lib.hid (HO3.out (by trivial) t x HSP.out)
   go_wp2
   have kw := blk_below (blk_set (blk_set K6.out 0 (.int .i64 0)) 1 (.int .i64 0)) (show Below _ _ (World.alloc _ (Obj.cells #[.int .i64 t, .int .i64 x] 125)) from (Below.refl _ _).alloc (Nat.le_refl _) _)
   obtain ⟨r0, r1, _⟩ := blkc2 kw
   have hbw : Below w.heap.size w ((w7.setCell ⟨X6, 0, none⟩ (.int .i64 0)).setCell ⟨X6, 1, none⟩ (.int .i64 0)) := (HB.out.setCell hw6 _).setCell hw6 _
   refine bodyPost_ret (v := .tuple #[.agg #[.int .i64 0, .int .i64 0], .int .i64 21]) (by simp [results, Tryz.results75, go_sem, r0, r1]) rfl ⟨hbw.alloc hbw.size _, _, _, _, rfl, HSO.out⟩
  ·have HSO := Lib.hid (HO2.out (by trivial) t x HSP.out)
   go_wp2
   have kw := blk_below (blk_set (blk_set K6.out 0 (.int .i64 t)) 1 (.int .i64 x)) (show Below _ _ (World.alloc _ (Obj.cells #[.int .i64 t, .int .i64 x] 125)) from (Below.refl _ _).alloc (Nat.le_refl _) _)
   obtain ⟨r0, r1, _⟩ := blkc2 kw
   have hbw : Below w.heap.size w ((w7.setCell ⟨X6, 0, none⟩ (.int .i64 t)).setCell ⟨X6, 1, none⟩ (.int .i64 x)) := (HB.out.setCell hw6 _).setCell hw6 _
   refine bodyPost_ret (v := .tuple #[.agg #[.int .i64 t, .int .i64 x], .int .i64 0]) (by simp [results, Tryz.results75, go_sem, r0, r1]) rfl ⟨hbw.alloc hbw.size _, _, _, _, rfl, HSO.out⟩
 ·have e1 := bne_iff_ne.2 h0
  have HSO := Lib.hid (HO1.out h0)
  obtain ⟨d0, d1, _⟩ := blkc2 K6.out
  have g0 := blk_fz K6.out 0
  have g1 := blk_fz K6.out 1
  have l6 := K6.out.lt
  clear h0 HS
  go_wp2
  have kw := blk_set (blk_set K6.out 0 (.int .i64 0)) 1 (.int .i64 0)
  obtain ⟨r0, r1, _⟩ := blkc2 kw
  refine bodyPost_ret (v := .tuple #[.agg #[.int .i64 0, .int .i64 0], .int .i64 E]) (by simp [results, Tryz.results75, go_sem, r0, r1]) rfl ⟨(HB.out.setCell hw6 _).setCell hw6 _, _, _, _, rfl, HSO.out⟩
end Go.Proofs.YtidboecjllaofaaGreat
