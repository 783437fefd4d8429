import Derived.RangeFuncNested
import Derived.RangeFuncBound
import Derived.RangeFuncCalls
import Derived.RangeFuncLeaves
import Derived.OwnWalkIn
import Derived.TacticsInMore
import Derived.Deep.CutRange
import Derived.Test.YtdjinmieogpgcaaGreatMTChk2
/- Machines and limits that are checked: openMachine, open. -/
namespace Go.Proofs.YtdjinmieogpgcaaGreat
open Go.RowKit
set_option linter.unusedVariables false
set_option linter.unusedSimpArgs false
set_option maxHeartbeats 1000000 in
set_option maxRecDepth 100000 in
theorem openMachine_any (m : Mac) (ab ag : Option Addr) (nb cb ng cg : Nat) (w : World) (hb : BrR w ab nb m.br) (hg : GrR w ag ng m.gs) :
    Calls Tryz.prog 75 #[.agg #[.slice ab nb cb, .int .i64 m.st, .slice ag ng cg]] w fun e' w' => e' = .returned (.tuple #[.agg #[.slice ab nb cb, .int .i64 m.st, .slice ag ng cg], .int .i64 (macE m).2]) ∧ Below w.heap.size w w' := by
 have HC := Lib.hid (fun (W : World) (hbw : Below w.heap.size w W) => checkMachine_any m ab ag nb cb ng cg W (hb.below hbw) (hg.below hbw))
 obtain ⟨st, hst⟩ : ∃ s, s = m.st := ⟨_, rfl⟩
 rw [← hst] at HC ⊢
 generalize macE m = E at *
 obtain ⟨k, e⟩ := E
 simp only at HC ⊢
 clear hb hg hst
 go_enter Tryz.func75, Tryz.ntmps75
 go_wp2_with fail
 refine (HC.out _ (by (first|exact bwg|go_size))).mono ?_
 rintro e5 w5 ⟨rfl, hb5⟩
 have hz5 := hb5.size
 simp only [World.size_alloc] at hz5
 have q0 : w5.cell? ⟨w.heap.size, 0, none⟩ = some (.slice ab nb cb) := bwc hb5; have q1 : w5.cell? ⟨w.heap.size, 1, none⟩ = some (.int .i64 st) := bwc hb5; have q2 : w5.cell? ⟨w.heap.size, 2, none⟩ = some (.slice ag ng cg) := bwc hb5; have r0 : w5.cell? ⟨w.heap.size + 1, 0, none⟩ = some (.slice none 0 0) := bwc hb5; have r1 : w5.cell? ⟨w.heap.size + 1, 1, none⟩ = some (.int .i64 0) := bwc hb5; have r2 : w5.cell? ⟨w.heap.size + 1, 2, none⟩ = some (.slice none 0 0) := bwc hb5; have f0 : w5.frozen? ⟨w.heap.size + 1, 0, none⟩ = false := bwf hb5; have f1 : w5.frozen? ⟨w.heap.size + 1, 1, none⟩ = false := bwf hb5; have f2 : w5.frozen? ⟨w.heap.size + 1, 2, none⟩ = false := bwf hb5; have l0 : w.heap.size < w5.heap.size := by { omega }; have l1 : w.heap.size + 1 < w5.heap.size := by { omega }
 have HB5 := Lib.hid (show Below w.heap.size w w5 by (first|exact bwg|go_size))
 clear hb5 hz5
 go_wp2
 generalize hW : World.setCell (World.setCell (World.setCell _ _ _) _ _) _ _ = wz
 have s0 : wz.cell? ⟨w.heap.size + 1, 0, none⟩ = some (.slice ab nb cb) := by { rw [← hW]; clear hW; go_simp }
 have s1 : wz.cell? ⟨w.heap.size + 1, 1, none⟩ = some (.int .i64 st) := by { rw [← hW]; clear hW; go_simp }
 have s2 : wz.cell? ⟨w.heap.size + 1, 2, none⟩ = some (.slice ag ng cg) := by { rw [← hW]; clear hW; go_simp }
 refine bodyPost_ret (v := .tuple #[.agg #[.slice ab nb cb, .int .i64 st, .slice ag ng cg], .int .i64 e]) (by simp [results, Tryz.results75, go_sem, s0, s1, s2]) rfl ⟨rfl, ?_⟩
 rw [← hW]
 have := HB5.out
 (first|exact bwg|go_size)
set_option maxHeartbeats 1000000 in
set_option maxRecDepth 100000 in
theorem open_any (m : Mac) (l : Lim) (ab ag : Option Addr) (nb cb ng cg : Nat) (w : World) (hb : BrR w ab nb m.br) (hg : GrR w ag ng m.gs) :
    Calls Tryz.prog 48 #[.agg #[.slice ab nb cb, .int .i64 m.st, .slice ag ng cg], .agg #[.int .i64 l.volt, .int .i64 l.lo, .int .i64 l.hi, .int .i64 l.circ, .int .i64 l.brk, .int .i64 l.ret]] w
     fun e' w' => e' = .returned (.tuple #[.agg #[.slice ab nb cb, .int .i64 m.st, .slice ag ng cg, .int .i64 l.volt, .int .i64 l.lo, .int .i64 l.hi, .int .i64 l.circ, .int .i64 l.brk, .int .i64 l.ret], .int .i64 (firstErr [(macE m).2, limE l])]) ∧ Below w.heap.size w w' := by
 have HC := Lib.hid (fun (W : World) (hbw : Below w.heap.size w W) => openMachine_any m ab ag nb cb ng cg W (hb.below hbw) (hg.below hbw))
 have HL := Lib.hid (fun (W : World) => checkLimits_any l W)
 obtain ⟨st, hst⟩ : ∃ s, s = m.st := ⟨_, rfl⟩
 rw [← hst] at HC ⊢
 generalize (macE m).2 = E1 at *
 generalize limE l = E2 at *
 obtain ⟨vo, lo, hi, ci, br, re⟩ := l
 simp only at HL ⊢
 clear hb hg hst
 obtain ⟨V, hV⟩ : ∃ V, V = firstErr [E1, E2] := ⟨_, rfl⟩
 have HV := Lib.hid hV
 rw [← hV]
 clear hV
 go_enter Tryz.func48, Tryz.ntmps48
 go_wp2_with fail
 refine (HC.out _ (by (first|exact bwg|go_size))).mono ?_
 rintro e5 w5 ⟨rfl, hb5⟩
 have hz5 := hb5.size
 simp only [World.size_alloc] at hz5
 have q0 : w5.cell? ⟨w.heap.size + 1, 0, none⟩ = some (.int .i64 vo) := bwc hb5; have q1 : w5.cell? ⟨w.heap.size + 1, 1, none⟩ = some (.int .i64 lo) := bwc hb5; have q2 : w5.cell? ⟨w.heap.size + 1, 2, none⟩ = some (.int .i64 hi) := bwc hb5; have q3 : w5.cell? ⟨w.heap.size + 1, 3, none⟩ = some (.int .i64 ci) := bwc hb5; have q4 : w5.cell? ⟨w.heap.size + 1, 4, none⟩ = some (.int .i64 br) := bwc hb5; have q5 : w5.cell? ⟨w.heap.size + 1, 5, none⟩ = some (.int .i64 re) := bwc hb5; have l1 : w.heap.size + 1 < w5.heap.size := by { omega }
 have k4 : w5.heap[w.heap.size + 1 + 1]? = some (.cells #[.slice none 0 0, .int .i64 0, .slice none 0 0, .int .i64 0, .int .i64 0, .int .i64 0, .int .i64 0, .int .i64 0, .int .i64 0] 100) := by
  rw [hb5.block _ (by simp)]
  have := heap_alloc_new ((w.alloc (Obj.cells #[.slice ab nb cb, .int .i64 st, .slice ag ng cg] 45)).alloc (Obj.cells #[.int .i64 vo, .int .i64 lo, .int .i64 hi, .int .i64 ci, .int .i64 br, .int .i64 re] 47)) (Obj.cells #[.slice none 0 0, .int .i64 0, .slice none 0 0, .int .i64 0, .int .i64 0, .int .i64 0, .int .i64 0, .int .i64 0, .int .i64 0] 100)
  simpa using this
 have HB5 := Lib.hid (show Below w.heap.size w w5 by (first|exact bwg|go_size))
 obtain ⟨w6, hW⟩ : ∃ w6, w6 = w5.alloc (Obj.cells #[.slice ab nb cb, .int .i64 st, .slice ag ng cg] 98) := ⟨_, rfl⟩
 have hb6 : Below w5.heap.size w5 w6 := by rw [hW]; (first|exact bwg|go_size)
 have k6 : w6.heap[w5.heap.size]? = some (.cells #[.slice ab nb cb, .int .i64 st, .slice ag ng cg] 98) := by rw [hW]; exact heap_alloc_new _ _
 clear hb5
 go_wp2_with fail
 rw [← hW]
 obtain ⟨X6, hX6⟩ : ∃ X, X = w5.heap.size := ⟨_, rfl⟩
 rw [← hX6] at k6 ⊢
 obtain ⟨X4, hX4⟩ : ∃ X, X = w.heap.size + 1 + 1 := ⟨_, rfl⟩
 rw [← hX4] at k4 ⊢
 have hne : X4 < X6 := by rw [hX6]; exact blk_lt k4
 have hlow : w.heap.size + 1 < X4 := by omega
 have k4 := blk_below k4 hb6
 have HB6 := bwt HB5 hb6
 have u0 : w6.cell? ⟨w.heap.size + 1, 0, none⟩ = some (.int .i64 vo) := bwc hb6; have u1 : w6.cell? ⟨w.heap.size + 1, 1, none⟩ = some (.int .i64 lo) := bwc hb6; have u2 : w6.cell? ⟨w.heap.size + 1, 2, none⟩ = some (.int .i64 hi) := bwc hb6; have u3 : w6.cell? ⟨w.heap.size + 1, 3, none⟩ = some (.int .i64 ci) := bwc hb6; have u4 : w6.cell? ⟨w.heap.size + 1, 4, none⟩ = some (.int .i64 br) := bwc hb6; have u5 : w6.cell? ⟨w.heap.size + 1, 5, none⟩ = some (.int .i64 re) := bwc hb6
 obtain ⟨p0, p1, p2, l6⟩ := blkc3 k6
 have l4 := blk_lt k4
 have ok6 : OkB X6 w6.heap.size X4 := ⟨l6, by omega⟩
 have okL : OkB (w.heap.size + 1) w6.heap.size X4 := ⟨by omega, by omega⟩
 have HK4 := Lib.hid k4
 have hX4w : w.heap.size ≤ X4 := by omega
 clear hW hX6 hX4 k6 k4 hb6 q0 q1 q2 q3 q4 q5 HB5 l1 hz5
 refine wp_region_laterC (B := w6.heap.size) (b0 :=  X4) [(true, 0), (true, 1), (true, 2), (true, 3), (true, 4), (false, 5), (false, 6), (false, 7), (false, 8), (true, 9)] (by kernel_rfl) (by kernel_rfl) ?_; simp only [opsOf, List.filterMap_cons, List.filterMap_nil, List.getElem?_toArray, List.getElem?_cons_zero, List.getElem?_cons_succ, Option.map_some]
 repeat (refine mixc_head ?_; (show wpQuiet _ _ _ _ (_ :: _) _; go_big_quiet_step (fail)); refine wpQuiet_nil ?_)
 refine mixc_tail ?_; go_wp2_with fail
 refine (HL.out _).mono ?_
 rintro e7 w7 ⟨rfl, hb7⟩
 have HX := Lib.hid ((show Below w6.heap.size w6 w6.drew by (first|exact bwg|go_size)).trans hb7)
 clear hb7
 go_wp2_with fail
 refine tailC_stay (SameX.of_below HX.out) ?_
 refine mixc_tail ?_; go_wp2_with fail
 have hb8 : Below w7.heap.size w7 (w7.alloc (Obj.cells #[.int .i64 E1, .int .i64 E2] 31)) := by (first|exact bwg|go_size)
 have HX8 := bwt HX hb8
 refine tailC_stay (SameX.of_below HX8.out) ?_
 refine mixc_tail ?_; go_wp2_with fail
 refine (t_first2 _ _ _ _ _ _ (by rfl) (by simp)).mono ?_
 rintro e8 w8 ⟨rfl, hw8⟩
 rw [hw8] at HX8
 clear hw8 hb8
 have kx := (HX8.out.block X4 l4).trans HK4.out
 obtain ⟨c0, c1, c2, c3, c4, c5, c6, c7, c8, _⟩ := blkc9 kx
 have d0 := blk_fz kx 0
 have d1 := blk_fz kx 1
 have d2 := blk_fz kx 2
 have d3 := blk_fz kx 3
 have d4 := blk_fz kx 4
 have d5 := blk_fz kx 5
 have d6 := blk_fz kx 6
 have d7 := blk_fz kx 7
 have d8 := blk_fz kx 8
 have lx := blk_lt kx
 have HKX := Lib.hid kx
 clear kx
 go_wp2_with fail
 refine tailC_stay (SameX.of_below HX8.out) ?_
 refine mixc_tail ?_; go_wp2_with fail
 have y0 : SameX w6.heap.size X4 w6 w8 := SameX.of_below HX8.out
 have y1 := SameX.set (o := 0) y0 (.slice ab nb cb)
 have y2 := SameX.set (o := 1) y1 (.int .i64 st)
 have y3 := SameX.set (o := 2) y2 (.slice ag ng cg)
 have y4 := SameX.set (o := 3) y3 (.int .i64 vo)
 have y5 := SameX.set (o := 4) y4 (.int .i64 lo)
 have y6 := SameX.set (o := 5) y5 (.int .i64 hi)
 have y7 := SameX.set (o := 6) y6 (.int .i64 ci)
 have y8 := SameX.set (o := 7) y7 (.int .i64 br)
 have y9 := SameX.set (o := 8) y8 (.int .i64 re)
 have HY := Lib.hid y9
 clear y0 y1 y2 y3 y4 y5 y6 y7 y8 y9
 refine tailC_stay HY.out ?_
 repeat (refine mixc_head ?_; (show wpQuiet _ _ _ _ (_ :: _) _; go_big_quiet_step (fail)); refine wpQuiet_nil ?_)
 refine mixc_nil ?_
 go_wp2_with fail
 have z0 := HKX.out
 obtain ⟨wz0, hz0⟩ : ∃ W, W = w8.setCell ⟨X4, 0, none⟩ (.slice ab nb cb) := ⟨_, rfl⟩
 have z1 : wz0.heap[X4]? = some (.cells #[.slice ab nb cb, .int .i64 0, .slice none 0 0, .int .i64 0, .int .i64 0, .int .i64 0, .int .i64 0, .int .i64 0, .int .i64 0] 100) := by rw [hz0]; exact blk_set z0 0 (.slice ab nb cb)
 have e1 : Below w.heap.size w wz0 := by rw [hz0]; exact Below.setCell (HB6.out.trans (HX8.out.mono HB6.out.size)) hX4w _
 obtain ⟨wz1, hz1⟩ : ∃ W, W = wz0.setCell ⟨X4, 1, none⟩ (.int .i64 st) := ⟨_, rfl⟩
 have z2 : wz1.heap[X4]? = some (.cells #[.slice ab nb cb, .int .i64 st, .slice none 0 0, .int .i64 0, .int .i64 0, .int .i64 0, .int .i64 0, .int .i64 0, .int .i64 0] 100) := by rw [hz1]; exact blk_set z1 1 (.int .i64 st)
 have e2 : Below w.heap.size w wz1 := by rw [hz1]; exact Below.setCell e1 hX4w _
 obtain ⟨wz2, hz2⟩ : ∃ W, W = wz1.setCell ⟨X4, 2, none⟩ (.slice ag ng cg) := ⟨_, rfl⟩
 have z3 : wz2.heap[X4]? = some (.cells #[.slice ab nb cb, .int .i64 st, .slice ag ng cg, .int .i64 0, .int .i64 0, .int .i64 0, .int .i64 0, .int .i64 0, .int .i64 0] 100) := by rw [hz2]; exact blk_set z2 2 (.slice ag ng cg)
 have e3 : Below w.heap.size w wz2 := by rw [hz2]; exact Below.setCell e2 hX4w _
 obtain ⟨wz3, hz3⟩ : ∃ W, W = wz2.setCell ⟨X4, 3, none⟩ (.int .i64 vo) := ⟨_, rfl⟩
 have z4 : wz3.heap[X4]? = some (.cells #[.slice ab nb cb, .int .i64 st, .slice ag ng cg, .int .i64 vo, .int .i64 0, .int .i64 0, .int .i64 0, .int .i64 0, .int .i64 0] 100) := by rw [hz3]; exact blk_set z3 3 (.int .i64 vo)
 have e4 : Below w.heap.size w wz3 := by rw [hz3]; exact Below.setCell e3 hX4w _
 obtain ⟨wz4, hz4⟩ : ∃ W, W = wz3.setCell ⟨X4, 4, none⟩ (.int .i64 lo) := ⟨_, rfl⟩
 have z5 : wz4.heap[X4]? = some (.cells #[.slice ab nb cb, .int .i64 st, .slice ag ng cg, .int .i64 vo, .int .i64 lo, .int .i64 0, .int .i64 0, .int .i64 0, .int .i64 0] 100) := by rw [hz4]; exact blk_set z4 4 (.int .i64 lo)
 have e5 : Below w.heap.size w wz4 := by rw [hz4]; exact Below.setCell e4 hX4w _
 obtain ⟨wz5, hz5⟩ : ∃ W, W = wz4.setCell ⟨X4, 5, none⟩ (.int .i64 hi) := ⟨_, rfl⟩
 have z6 : wz5.heap[X4]? = some (.cells #[.slice ab nb cb, .int .i64 st, .slice ag ng cg, .int .i64 vo, .int .i64 lo, .int .i64 hi, .int .i64 0, .int .i64 0, .int .i64 0] 100) := by rw [hz5]; exact blk_set z5 5 (.int .i64 hi)
 have e6 : Below w.heap.size w wz5 := by rw [hz5]; exact Below.setCell e5 hX4w _
 obtain ⟨wz6, hz6⟩ : ∃ W, W = wz5.setCell ⟨X4, 6, none⟩ (.int .i64 ci) := ⟨_, rfl⟩
 have z7 : wz6.heap[X4]? = some (.cells #[.slice ab nb cb, .int .i64 st, .slice ag ng cg, .int .i64 vo, .int .i64 lo, .int .i64 hi, .int .i64 ci, .int .i64 0, .int .i64 0] 100) := by rw [hz6]; exact blk_set z6 6 (.int .i64 ci)
 have e7 : Below w.heap.size w wz6 := by rw [hz6]; exact Below.setCell e6 hX4w _
 obtain ⟨wz7, hz7⟩ : ∃ W, W = wz6.setCell ⟨X4, 7, none⟩ (.int .i64 br) := ⟨_, rfl⟩
 have z8 : wz7.heap[X4]? = some (.cells #[.slice ab nb cb, .int .i64 st, .slice ag ng cg, .int .i64 vo, .int .i64 lo, .int .i64 hi, .int .i64 ci, .int .i64 br, .int .i64 0] 100) := by rw [hz7]; exact blk_set z7 7 (.int .i64 br)
 have e8 : Below w.heap.size w wz7 := by rw [hz7]; exact Below.setCell e7 hX4w _
 obtain ⟨wz8, hz8⟩ : ∃ W, W = wz7.setCell ⟨X4, 8, none⟩ (.int .i64 re) := ⟨_, rfl⟩
 have z9 : wz8.heap[X4]? = some (.cells #[.slice ab nb cb, .int .i64 st, .slice ag ng cg, .int .i64 vo, .int .i64 lo, .int .i64 hi, .int .i64 ci, .int .i64 br, .int .i64 re] 100) := by rw [hz8]; exact blk_set z8 8 (.int .i64 re)
 have e9 : Below w.heap.size w wz8 := by rw [hz8]; exact Below.setCell e8 hX4w _
 rw [← hz0, ← hz1, ← hz2, ← hz3, ← hz4, ← hz5, ← hz6, ← hz7, ← hz8]
 have kz := z9
 clear z0 z1 z2 z3 z4 z5 z6 z7 z8 z9
 obtain ⟨s0, s1, s2, s3, s4, s5, s6, s7, s8, _⟩ := blkc9 kz
 refine bodyPost_ret (v := .tuple #[.agg #[.slice ab nb cb, .int .i64 st, .slice ag ng cg, .int .i64 vo, .int .i64 lo, .int .i64 hi, .int .i64 ci, .int .i64 br, .int .i64 re], .int .i64 V]) (by simp [results, Tryz.results48, go_sem, s0, s1, s2, s3, s4, s5, s6, s7, s8, HV.out]) rfl ⟨rfl, e9⟩
/- mayChange: a guard permits that a contact changes. -/
theorem not_bits : ∀ a < 64, ∀ s < 64, (bits .andNot .i64 ((a : Nat) : Int) ((s : Nat) : Int) == 0) = decide (a &&& s = a) := by decide +kernel
theorem and_bits : ∀ a < 64, ∀ s < 64, (bits .and .i64 ((a : Nat) : Int) ((s : Nat) : Int) == 0) = decide (a &&& s = 0) := by decide +kernel
set_option maxHeartbeats 1000000 in
set_option maxRecDepth 100000 in
theorem may1_any (g : Grd) (s i BC BS : Nat) (w : World) (hs : s < 64) (hi : i < 8) (hg1 : 0 ≤ g.ci ∧ g.ci < 64) (hg2 : 0 ≤ g.op ∧ g.op < 64) (h1 : BC < w.heap.size) (h2 : BS < w.heap.size)
    (hc1 : w.cell? ⟨BC, 0, none⟩ = some (.int .i64 (i : Int))) (hc2 : w.cell? ⟨BS, 0, none⟩ = some (.int .i64 (s : Int))) :
    Calls Tryz.prog 126 #[.agg #[.int .i64 g.c, .bool g.cl, .int .i64 g.ci, .int .i64 g.op], .pointer (some ⟨BC, 0, none⟩), .pointer (some ⟨BS, 0, none⟩)] w fun e' w' => e' = .returned (.bool (grdB s i g)) ∧ Below w.heap.size w w' := by
 obtain ⟨gc, gl, gi, go⟩ := g
 simp only at hg1 hg2 ⊢
 obtain ⟨a, rfl⟩ : ∃ a : Nat, gi = a := ⟨gi.toNat, by omega⟩
 obtain ⟨b, rfl⟩ : ∃ b : Nat, go = b := ⟨go.toNat, by omega⟩
 have e1 := not_bits a (by omega) s hs
 have e2 := and_bits b (by omega) s hs
 have HH := Lib.hid (fun w' => has_any s i w' hs hi)
 obtain ⟨V, hV⟩ : ∃ V, V = grdB s i ⟨gc, gl, a, b⟩ := ⟨_, rfl⟩
 have hV2 : V = (((gc == (i : Int)) && (!(gl == s.testBit i))) && (bits .andNot .i64 ((a : Nat) : Int) ((s : Nat) : Int) == 0) && (bits .and .i64 ((b : Nat) : Int) ((s : Nat) : Int) == 0)) := by
  rw [hV, e1, e2]
  unfold grdB
  simp only [Int.toNat_natCast]
  congr 2
  congr 1
  rw [Bool.eq_iff_iff]; simp
 rw [← hV]
 clear hV e1 e2
 generalize s.testBit i = tb at *
 obtain ⟨x1, hx1⟩ : ∃ x, x = (gc == (i : Int)) := ⟨_, rfl⟩
 obtain ⟨x2, hx2⟩ : ∃ x, x = (gl == tb) := ⟨_, rfl⟩
 obtain ⟨x3, hx3⟩ : ∃ x, x = (bits .andNot .i64 ((a : Nat) : Int) ((s : Nat) : Int) == 0) := ⟨_, rfl⟩
 obtain ⟨x4, hx4⟩ : ∃ x, x = (bits .and .i64 ((b : Nat) : Int) ((s : Nat) : Int) == 0) := ⟨_, rfl⟩
 rw [← hx1, ← hx2, ← hx3, ← hx4] at hV2
 have HV := Lib.hid hV2
 have f1 := hx1.symm
 have f2 := hx2.symm
 have f3 := hx3.symm
 have f4 := hx4.symm
 clear hV2 hx1 hx2 hx3 hx4
 cases x1
 ·go_enter Tryz.func126, Tryz.ntmps126
  go_wp2_with fail
  refine later_all (by kernel_rfl) (by kernel_rfl) ?_; repeat go_big_quiet_step(with_reducible exact calls_later_same (HH.out _))
  refine wpQuiet_nil ?_; intro w5 hb5
  have HB5 := Lib.hid (show Below w.heap.size w w5 by (first|exact bwg|go_size))
  clear hb5
  go_wp2
  go_ret
  exact ⟨ret_bool (by rw [HV.out]; first | rfl | simp), HB5.out⟩
 ·cases x2
  ·cases x3
   ·go_enter Tryz.func126, Tryz.ntmps126
    go_wp2_with fail
    refine later_all (by kernel_rfl) (by kernel_rfl) ?_; repeat go_big_quiet_step(with_reducible exact calls_later_same (HH.out _))
    refine wpQuiet_nil ?_; intro w5 hb5
    have HB5 := Lib.hid (show Below w.heap.size w w5 by (first|exact bwg|go_size))
    clear hb5
    go_wp2
    go_ret
    exact ⟨ret_bool (by rw [HV.out]; first | rfl | simp), HB5.out⟩
   ·go_enter Tryz.func126, Tryz.ntmps126
    go_wp2_with fail
    refine later_all (by kernel_rfl) (by kernel_rfl) ?_; repeat go_big_quiet_step(with_reducible exact calls_later_same (HH.out _))
    refine wpQuiet_nil ?_; intro w5 hb5
    have HB5 := Lib.hid (show Below w.heap.size w w5 by (first|exact bwg|go_size))
    clear hb5
    go_wp2
    go_ret
    exact ⟨ret_bool (by rw [HV.out]; first | rfl | simp), HB5.out⟩
  ·go_enter Tryz.func126, Tryz.ntmps126
   go_wp2_with fail
   refine later_all (by kernel_rfl) (by kernel_rfl) ?_; repeat go_big_quiet_step(with_reducible exact calls_later_same (HH.out _))
   refine wpQuiet_nil ?_; intro w5 hb5
   have HB5 := Lib.hid (show Below w.heap.size w w5 by (first|exact bwg|go_size))
   clear hb5
   go_wp2
   go_ret
   exact ⟨ret_bool (by rw [HV.out]; first | rfl | simp), HB5.out⟩
theorem gAt_get {l : List Grd} {k : Nat} {g : Grd} (h : l[k]? = some g) : gAt l k = g := by unfold gAt; simp [List.getD, h]
set_option maxHeartbeats 1000000 in
set_option maxRecDepth 100000 in
theorem indexGrd_any (s ic BC BS : Nat) (l : List Grd) (a : Option Addr) (n c : Nat) (w : World) (hl : GrR w a n l) (hs : s < 64) (hi : ic < 8) (hx : ∀ g ∈ l, (0 ≤ g.ci ∧ g.ci < 64) ∧ 0 ≤ g.op ∧ g.op < 64) (h1 : BC < w.heap.size) (h2 : BS < w.heap.size)
    (hc1 : w.cell? ⟨BC, 0, none⟩ = some (.int .i64 (ic : Int))) (hc2 : w.cell? ⟨BS, 0, none⟩ = some (.int .i64 (s : Int))) :
    Calls Tryz.prog 150 #[.slice a n c, .func (.func 126) #[] #[.pointer (some ⟨BC, 0, none⟩), .pointer (some ⟨BS, 0, none⟩)]] w fun e' w' => e' = .returned (.int .i64 (idxFrom (grdB s ic) l 0)) ∧ Below w.heap.size w w' := by
 have HL := Lib.hid hl
 have HO := Lib.hid (fun (q : Grd) (hq : q ∈ l) (W : World) (hb : Below w.heap.size w W) => may1_any q s ic BC BS W hs hi (hx q hq).1 (hx q hq).2 (Nat.lt_of_lt_of_le h1 hb.size) (Nat.lt_of_lt_of_le h2 hb.size) (by rw [cellB hb _ _ h1]; exact hc1) (by rw [cellB hb _ _ h2]; exact hc2))
 have hn := hl.small
 clear hl hc1 hc2 hx h1 h2
 go_enter Tryz.func150, Tryz.ntmps150
 go_wp2
 go_loopw [8] (fun i wr => ∃ k : Nat, i = .int .i64 k ∧ k ≤ n ∧ Hid (idxFrom (grdB s ic) (l.drop k) k = idxFrom (grdB s ic) l 0) ∧ Hid (Below w.heap.size w wr)) (fun i _ => n - (intOf i).toNat)
 case atStart => exact ⟨0, rfl, Nat.zero_le _, rfl, Lib.hid (Below.refl _ _)⟩
 case round =>
  obtain ⟨k, rfl, hk, hF, hB'⟩ := hrel
  by_cases hlt : k < n
  ·obtain ⟨b, o, rfl, hb, hc⟩ := HL.out.addr (by omega)
   obtain ⟨g, hx⟩ := ER.get HL.out hlt
   obtain ⟨q0, q1, q2, q3⟩ := hc k hlt
   rw [gAt_get hx] at q0 q1 q2 q3
   rw [← cellB hB'.out _ _ hb] at q0 q1 q2 q3
   clear hc
   have hF' := hF.out
   rw [drop_cons' hx, idxFrom] at hF'
   have HF := Lib.hid hF'
   have HQ := Lib.hid (HO.out _ (List.mem_of_getElem? hx) wr hB'.out)
   clear hF' hF hx
   obtain ⟨gc, gl, gi, go⟩ := g
   have i0 : (0 : Int) ≤ (k : Int) := by omega
   have hz := hB'.out.size
   simp only at HQ HF q0 q1 q2 q3
   generalize grdB s ic ⟨gc, gl, gi, go⟩ = b1 at *
   go_wp2_with fail
   refine HQ.out.mono ?_
   rintro e w' ⟨rfl, hb'⟩
   have HB := Lib.hid (hB'.out.trans (hb'.mono hB'.out.size))
   clear hb' hB'
   cases b1
   ·rw [if_neg (by decide)] at HF
    go_wp2
    go_roundw
    case rel => exact ⟨k + 1, by go_num, by omega, HF, HB⟩
    case measure => simp [intOf]; omega
   ·rw [if_pos rfl] at HF
    go_wp2
    go_ret
    exact ⟨ret_int HF.out, HB.out⟩
  ·have HE := Lib.hid (show (-1 : Int) = idxFrom (grdB s ic) l 0 by
     rw [← hF.out, drop_end l k (by rw [HL.out.len]; omega)]; rfl)
   clear hF
   go_wp2
   go_ret
   exact ⟨ret_int HE.out, hB'.out⟩
theorem idx_any {α : Type} {p : α → Bool} : ∀ (l : List α) (k : Nat), decide (idxFrom p l k ≥ 0) = l.any p
 | [], k => by simp [idxFrom]
 | x :: r, k => by
  unfold idxFrom
  cases h : p x
  ·rw [if_neg (by decide), List.any_cons, h, idx_any r (k + 1)]; rfl
  ·rw [if_pos rfl, List.any_cons, h]; simp
theorem containsGrd_any (s i BC BS : Nat) (l : List Grd) (a : Option Addr) (n c : Nat) (w : World) (hl : GrR w a n l) (hs : s < 64) (hi : i < 8) (hx : ∀ g ∈ l, (0 ≤ g.ci ∧ g.ci < 64) ∧ 0 ≤ g.op ∧ g.op < 64) (h1 : BC < w.heap.size) (h2 : BS < w.heap.size)
    (hc1 : w.cell? ⟨BC, 0, none⟩ = some (.int .i64 (i : Int))) (hc2 : w.cell? ⟨BS, 0, none⟩ = some (.int .i64 (s : Int))) :
    Calls Tryz.prog 125 #[.slice a n c, .func (.func 126) #[] #[.pointer (some ⟨BC, 0, none⟩), .pointer (some ⟨BS, 0, none⟩)]] w fun e' w' => e' = .returned (.bool (l.any (grdB s i))) ∧ Below w.heap.size w w' := by
 have HI := Lib.hid (indexGrd_any s i BC BS l a n c w hl hs hi hx h1 h2 hc1 hc2)
 rw [← idx_any l 0]
 generalize idxFrom (grdB s i) l 0 = I at *
 clear hl hc1 hc2 hx
 go_enter Tryz.func125, Tryz.ntmps125
 go_wp2_with fail
 refine HI.out.mono ?_
 rintro e5 w5 ⟨rfl, hb5⟩
 go_wp2
 go_ret
 exact ⟨ret_bool rfl, hb5⟩
theorem grds_ok {m : Mac} (hm : MacV m) : ∀ g ∈ m.gs, (0 ≤ g.ci ∧ g.ci < 64) ∧ 0 ≤ g.op ∧ g.op < 64 := by
 intro g hg
 obtain ⟨k, hk, rfl⟩ := List.getElem_of_mem hg
 have h := hm.gs k hk
 have e : gAt m.gs k = m.gs[k] := gAt_get (List.getElem?_eq_getElem hk)
 rw [e] at h
 have hp : (2 : Int) ^ m.br.length ≤ 64 := by
  have := hm.n1
  generalize m.br.length = n at *
  have : n = 0 ∨ n = 1 ∨ n = 2 ∨ n = 3 ∨ n = 4 ∨ n = 5 ∨ n = 6 := by omega
  rcases this with rfl | rfl | rfl | rfl | rfl | rfl | rfl <;> decide
 omega
set_option maxRecDepth 100000 in
theorem mayChange_any (m : Mac) (s i : Nat) (ab ag : Option Addr) (nb cb ng cg : Nat) (w : World) (hm : MacV m) (hg : GrR w ag ng m.gs) (hs : s < 64) (hi : i < 8) :
    Calls Tryz.prog 92 #[.agg #[.slice ab nb cb, .int .i64 m.st, .slice ag ng cg], .int .i64 (s : Int), .int .i64 (i : Int)] w fun e' w' => e' = .returned (.bool (mayB m s i)) ∧ Below w.heap.size w w' := by
 have HC := Lib.hid (fun (W : World) (hbw : Below w.heap.size w W) (BC BS : Nat) (h1 : BC < W.heap.size) (h2 : BS < W.heap.size) (hc1 : W.cell? ⟨BC, 0, none⟩ = some (.int .i64 (i : Int))) (hc2 : W.cell? ⟨BS, 0, none⟩ = some (.int .i64 (s : Int))) => containsGrd_any s i BC BS m.gs ag ng cg W (hg.below hbw) hs hi (grds_ok hm) h1 h2 hc1 hc2)
 unfold mayB
 generalize m.gs.any (grdB s i) = V at *
 clear hg hm
 go_enter Tryz.func92, Tryz.ntmps92
 go_wp2_with fail
 refine (HC.out _ (by (first|exact bwg|go_size)) _ _ (by simp) (by simp) (by go_simp) (by go_simp)).mono ?_
 rintro e5 w5 ⟨rfl, hb5⟩
 go_wp2
 go_ret
 exact ⟨rfl, by (first|exact bwg|go_size)⟩
/- A range over a method value or a closure, whose rounds may leave: a round, the statement, and a return behind many such statements. -/
def twoPost (P : Program) (l : Nat) (rec : Loop) (R : Ending → World → Prop) : Exit → Act → World → Prop
 | .normal, _, W => W.heap[l]? = some (.loop { rec with state := .busy }) ∧ R (.returned (.bool true)) (W.putObj l (.loop rec))
 | .ret, _, W => W.heap[l]? = some (.loop { rec with state := .busy }) ∧ R (.returned (.bool false)) (W.putObj l (.loop { rec with state := .done, pending := some .ret }))
 | _, _, _ => False
theorem yield_two {P : Program} {m l : Nat} {xs : Array Value} {W : World} {R : Ending → World → Prop} {rec : Loop} (hl : W.heap[l]? = some (.loop rec)) (hst : rec.state = .ready) (hp : rec.pending = none) (hsz : xs.size = rec.params.size)
    (h : rec.assign.wpIn (Fence.wide.inRound l) m P (Exit.then (fun a1 W1 => W1.heap[l]? = some (.loop rec) ∧ rec.body.wpIn (Fence.wide.inRound l) m P (twoPost P l rec R) a1 (W1.putObj l (.loop { rec with state := .busy }))) (fun _ _ _ => False))
     { tmps := (rec.params.zip xs).foldl (fun t (p, v) => t.setIfInBounds p v) rec.tmps, defers := [] } W) :
    YieldAt Fence.wide m P l xs W R := by
 refine ⟨_, _, _, _, run_yield hl hsz, roundIn_of_wpIn trivial (wpIn_mono h ?_)⟩
 intro e a1 W1 hq
 cases e with
 | normal =>
  obtain ⟨h1, h2⟩ := hq
  refine ⟨_, run_beginRound h1 hst, wpIn_mono h2 ?_⟩
  intro e2 a2 W2 hq2
  cases e2 with
  | normal =>
   obtain ⟨h3, h4⟩ := hq2
   refine ⟨_, _, run_endRound none h3, ?_⟩
   have : ({ { rec with state := .busy } with state := if (none : Option Code).isNone then .ready else .done, pending := none } : Loop) = rec := by
    cases rec; simp_all
   simp only [this]
   exact h4
  | ret =>
   obtain ⟨h3, h4⟩ := hq2
   refine ⟨_, _, run_endRound (some .ret) h3, ?_⟩
   exact h4
  | _ => exact hq2.elim
 | _ => exact hq.elim
theorem range_two {P : Program} {n : Nat} {g : Operand} {ps : Array Tmp} {assign body : Code} {Q : Exit → Act → World → Prop} {a : Act} {w : World} {gf : Nat} {fst lst : Array Value}
    (hg : a.eval g = .func (.func gf) fst lst) (eg : ∀ args w, (callFunc gf args).run P w = .ok (.enter gf args) w)
    (h : ∀ rec : Loop, rec.state = .ready → rec.pending = none → rec.params = ps → rec.tmps = a.tmps → rec.assign = assign → rec.body = body →
     CallsIn Fence.wide (n - 1) P gf (fst ++ #[.func (.yield (w.heap.size + 1)) #[] #[]] ++ lst) ((w.alloc (.deferred (some []))).alloc (.loop rec)) fun e W => (∃ v, e = .returned v) ∧
      ((W.heap[w.heap.size + 1]? = some (.loop rec) ∧
       Q .normal { a with defers := { target := .collected w.heap.size, args := #[] } :: a.defers } (W.putObj (w.heap.size + 1) (.loop { rec with state := .exhausted }))) ∨
      (W.heap[w.heap.size + 1]? = some (.loop { rec with state := .done, pending := some .ret }) ∧
       Q .ret { a with defers := { target := .collected w.heap.size, args := #[] } :: a.defers } (W.putObj (w.heap.size + 1) (.loop { rec with state := .exhausted, pending := some .ret }))))) :
    (Code.rangeFunc g ps assign body).wpIn Fence.wide n P Q a w := by
 refine wpIn_rangeFunc ?_
 intro fn hfn
 obtain ⟨W1, hW1⟩ : ∃ W1, W1 = (w.alloc (.deferred (some []))).alloc (.loop { state := .ready, pending := none, fn := fn, tmps := a.tmps, params := ps, assign := assign, body := body, defers := w.heap.size }) := ⟨_, rfl⟩
 refine ⟨w.heap.size + 1, [{ target := .collected w.heap.size, args := #[] }], W1, { target := .fn (.func gf) lst, args := fst ++ #[.func (.yield (w.heap.size + 1)) #[] #[]] }, W1, gf, fst ++ #[.func (.yield (w.heap.size + 1)) #[] #[]] ++ lst, W1, by rw [hW1]; exact run_enterLoop_outer _ _ _ _ _, ?_, fun _ _ => trivial, ?_, fun h => by simp [Fence.wide] at h, ?_⟩
 ·simp only [resolve, hg]
  simp [go_sem]
 ·simp [invoke, go_sem, eg]
 ·rw [hW1]
  refine (h _ rfl rfl rfl rfl rfl rfl).mono ?_
  rintro e W ⟨⟨v, rfl⟩, (⟨h1, h2⟩ | ⟨h1, h2⟩)⟩
  ·exact ⟨none, _, by have := run_endLoop (P := P) h1 (by simp); exact this, h2⟩
  ·refine ⟨some .ret, _, by have := run_endLoop (P := P) h1 (by simp); exact this, ?_⟩
   exact wpIn_ret h2
def SameCells (A B : World) : Prop := ∀ (k : Nat) c t z, A.heap[k]? = some (.cells c t z) → B.heap[k]? = some (.cells c t z)
def mark (D : Nat) : Deferred := { target := .collected D, args := #[] }
theorem leaves_marks {P : Program} {F : Fence} {n : Nat} {fn : Func} {tmps : Array Value} {R : Ending → World → Prop} {B : Nat} {w0 : World} : ∀ (l : List Nat) (w : World), l.Nodup → (∀ D ∈ l, B ≤ D ∧ w.heap[D]? = some (.deferred (some []))) → Below B w0 w →
    (∀ w', SameCells w w' → Below B w0 w' → ∃ v, (results fn tmps).run P w' = .ok v w' ∧ R (.returned v) w') → LeavesInM F n P fn tmps R (l.map mark) .returning w
 | [], w, _, _, hb, h => h w (fun _ _ _ _ h => h) hb
 | D :: r, w, hn, hd, hb, h => by
  rw [List.nodup_cons] at hn
  have hD := hd D (by simp)
  refine ⟨by simp, .inl ⟨D, _, rfl, run_takeDeferred hD.2, ?_⟩⟩
  have hlt := (Array.getElem?_eq_some_iff.1 hD.2).1
  refine leaves_marks r _ hn.2 (fun E hE => ⟨(hd E (by simp [hE])).1, ?_⟩) (hb.trans ?_) (fun w' hs hb' => h w' (fun k c t z hk => hs k c t z ?_) hb')
  ·rw [World.putObj_heap_other (by rintro rfl; exact hn.1 hE)]
   exact (hd E (by simp [hE])).2
  ·exact (Below.refl B w).grown (grownBy_putObj' w D _) (by omega) (fun k e => by cases e; exact hD.1)
  ·rw [World.putObj_heap_other (fun e => ?_)]
   ·exact hk
   ·subst e; rw [hD.2] at hk; cases hk
/- The contacts that may change in a state: the iterator, MovesIn; the reference's MayChange and Moves. -/
def movU (m : Mac) (s i : Nat) : List Nat := (List.range i).filter (mayB m s)
theorem movU_yes {m : Mac} {s i : Nat} (h : mayB m s i = true) : movU m s (i + 1) = movU m s i ++ [i] := by unfold movU; rw [List.range_succ, List.filter_append]; simp [h]
theorem movU_no {m : Mac} {s i : Nat} (h : mayB m s i = false) : movU m s (i + 1) = movU m s i := by unfold movU; rw [List.range_succ, List.filter_append]; simp [h]
theorem movU_all (m : Mac) (s : Nat) : movU m s m.br.length = movL m s := rfl
def MovW (m : Mac) (s XM XS : Nat) (ab ag : Option Addr) (nb cb ng cg : Nat) (A : World) : Prop :=
 A.heap[XM]? = some (.cells #[.slice ab nb cb, .int .i64 m.st, .slice ag ng cg] 98) ∧ A.heap[XS]? = some (.cells #[.int .i64 (s : Int)] 117) ∧ GrR A ag ng m.gs
set_option maxHeartbeats 2000000 in
set_option maxRecDepth 100000 in
theorem moves_calls (m : Mac) (s XM XS lr : Nat) (ab ag : Option Addr) (nb cb ng cg : Nat) (J : List Nat → World → Prop) (Jx : World → Prop) (W : World) (hm : MacV m) (hnb : m.br.length = nb) (hs : s < 64)
    (hJ : ∀ L A B, J L A → Below A.heap.size A B → J L B)
    (hQ : ∀ L A, J L A → MovW m s XM XS ab ag nb cb ng cg A)
    (hY : ∀ i A, i < nb → mayB m s i = true → J (movU m s i) A → YieldAt Fence.wide 1 Tryz.prog lr #[.int .i64 (i : Int)] A (fun e B => (e = .returned (.bool true) ∧ J (movU m s i ++ [i]) B) ∨ (e = .returned (.bool false) ∧ Jx B)))
    (h0 : J [] W) :
    Calls Tryz.prog 112 #[.func (.yield lr) #[] #[], .pointer (some ⟨XM, 0, none⟩), .pointer (some ⟨XS, 0, none⟩)] W (fun e B => (∃ v, e = .returned v) ∧ (J (movL m s) B ∨ Jx B)) := by
 have HJ := Lib.hid hJ
 have HY := Lib.hid hY
 have HQ := Lib.hid hQ
 have HN := Lib.hid hnb
 have hn6 : nb ≤ 6 := by rw [← hnb]; exact hm.n1
 have HMC := Lib.hid (fun (i : Nat) (hi : i < nb) (A : World) (hg : GrR A ag ng m.gs) => mayChange_any m s i ab ag nb cb ng cg A hm hg hs (by omega))
 clear hJ hY hQ hm hnb
 have hq := HQ.out _ _ h0
 have q0 := blk_cell hq.1 (i := 0) rfl
 have lq := blk_lt hq.1
 clear hq
 go_enter Tryz.func112, Tryz.ntmps112
 go_wp2_with fail
 clear q0 lq
 go_loopw [9] (fun x wr => ∃ i : Nat, x = .int .i64 (i : Int) ∧ i ≤ nb ∧ Hid (J (movU m s i) wr)) (fun x _ => nb - (intOf x).toNat)
 case atStart => exact ⟨0, rfl, Nat.zero_le _, Lib.hid h0⟩
 case round =>
  obtain ⟨i, rfl, hi, hJi⟩ := hrel
  have i0 : (0 : Int) ≤ (i : Int) := by omega
  by_cases hlt : i < nb
  ·have i1 : (i : Int) < (nb : Int) := by omega
   have hq := HQ.out _ _ hJi.out
   obtain ⟨q0, q1, q2, _⟩ := blkc3 hq.1
   have q3 := blk_cell hq.2.1 (i := 0) rfl
   have lq := blk_lt hq.1
   have lq2 := blk_lt hq.2.1
   have HMX := Lib.hid (HMC.out i hlt wr hq.2.2)
   clear hq
   obtain ⟨mb, hmb⟩ : ∃ b, b = mayB m s i := ⟨_, rfl⟩
   rw [← hmb] at HMX
   have HMB := Lib.hid hmb
   clear hmb
   cases mb
   ·go_wp2_with fail
    refine (HMX.out).mono ?_
    rintro e5 w5 ⟨rfl, hb5⟩
    have hJ5 := Lib.hid (HJ.out _ _ _ hJi.out hb5)
    clear hb5 q0 q1 q2 q3 lq lq2 HMX hJi
    go_wp2_with fail
    go_roundw
    case rel => exact ⟨i + 1, by go_num, by omega, by rw [movU_no HMB.out.symm]; exact hJ5⟩
    case measure => simp [intOf]; omega
   ·go_upto_region 3 with (fail)
    go_cut [21] from 12 to 21 (fun v21 wx => (v21 = .bool false ∧ J (movU m s i ++ [i]) wx) ∨ (v21 = .bool true ∧ Jx wx))
    case first =>
     refine (wpIn_wide (n := 2)).1 ?_
     gi_wp2
     refine ⟨trivial, CallsIn.mono (callsIn_wide.2 HMX.out) ?_⟩
     rintro e5 w5 ⟨rfl, hb5⟩
     have hJ5 := HJ.out _ _ _ hJi.out hb5
     obtain ⟨fn, tmps, assign, body, hy, hR⟩ := HY.out i w5 hlt HMB.out.symm hJ5
     gi_wp2
     refine hR.mono ?_
     rintro e W' (⟨rfl, hJ2⟩ | ⟨rfl, hJx⟩)
     ·gi_wp2
      go_meet
      exact .inl ⟨rfl, hJ2⟩
     ·gi_wp2
      go_meet
      exact .inr ⟨rfl, hJx⟩
    case rest =>
     rcases hcut with ⟨rfl, hJ2⟩ | ⟨rfl, hJ2⟩
     ·have hJ2 := Lib.hid hJ2
      go_wp2
      go_roundw
      case rel => exact ⟨i + 1, by go_num, by omega, by rw [movU_yes HMB.out.symm]; exact hJ2⟩
      case measure => simp [intOf]; omega
     ·go_wp2
      refine bodyPost_ret (results_none rfl _ _ _) rfl ?_
      exact ⟨⟨_, rfl⟩, .inr hJ2⟩
  ·obtain rfl : nb = i := by omega
   have hJe := hJi.out
   have e : movU m s nb = movL m s := by rw [← HN.out]; exact movU_all m s
   rw [e] at hJe
   clear hJi e
   go_wp2
   go_end0
   exact ⟨⟨_, rfl⟩, .inl hJe⟩
end Go.Proofs.YtdjinmieogpgcaaGreat
