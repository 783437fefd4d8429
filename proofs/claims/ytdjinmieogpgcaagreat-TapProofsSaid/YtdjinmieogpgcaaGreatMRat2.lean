import Derived.Test.YtdjinmieogpgcaaGreatRat1
/- Quotients in memory: opposite, difference, sign, and how they are made of ints. -/
namespace Go.Proofs.YtdjinmieogpgcaaGreat
open Go.RowKit
set_option linter.unusedVariables false
theorem RatioR.parts {p : Nat → Prop} {w : World} {s t : Int} {a a2 : Option Addr} {n c n2 c2 : Nat} {q : Rat} (h : RatioR p w (.agg #[.int .i64 s, .slice a n c, .int .i64 t, .slice a2 n2 c2]) q) : WideR p w (.agg #[.int .i64 s, .slice a n c]) q.num ∧ WideR p w (.agg #[.int .i64 t, .slice a2 n2 c2]) (q.den : Int) := by
 obtain ⟨_, _, _, _, _, _, _, _, e, h1, h2⟩ := h
 simp only [Value.agg.injEq, Array.mk.injEq, List.cons.injEq, Value.slice.injEq, Value.int.injEq, and_true, true_and] at e
 obtain ⟨rfl, ⟨rfl, rfl, rfl⟩, rfl, rfl, rfl, rfl⟩ := e
 exact ⟨h1, h2⟩
theorem RatioR.of_parts {p : Nat → Prop} {w : World} {s t : Int} {a a2 : Option Addr} {n c n2 c2 : Nat} {q : Rat} (h1 : WideR p w (.agg #[.int .i64 s, .slice a n c]) q.num) (h2 : WideR p w (.agg #[.int .i64 t, .slice a2 n2 c2]) (q.den : Int)) : RatioR p w (.agg #[.int .i64 s, .slice a n c, .int .i64 t, .slice a2 n2 c2]) q := ⟨s, a, n, c, t, a2, n2, c2, rfl, h1, h2⟩
set_option maxHeartbeats 400000 in
set_option maxRecDepth 100000 in
theorem ratioNeg_any (p : Nat → Prop) (v : Value) (q : Rat) (w : World) (h : RatioR p w v q) (hp : ∀ b, p b → b < w.heap.size) :
    Calls Tryz.prog 147 #[v] w fun e' w' => ∃ v', e' = .returned v' ∧ Below w.heap.size w w' ∧ RatioR p w' v' (-q) := by
 have HP := Lib.hid hp
 clear hp
 have HQ := Lib.hid h
 obtain ⟨s, a, n, c, t, a2, n2, c2, rfl, _, _⟩ := h
 have HD := Lib.hid (fun (w' : World) (hb : Below w.heap.size w w') => (HQ.out.below hb).parts)
 clear HQ
 go_enter Tryz.func147, Tryz.ntmps147
 go_wp2_with fail
 generalize hW : World.alloc _ _ = w6
 have hb6 : Below w.heap.size w w6 := by rw [← hW]; (first|exact bwg|go_size)
 have hz6 : w6.heap.size = w.heap.size + 1 + 1 := by rw [← hW]; simp
 have q0 : w6.cell? ⟨w.heap.size, 0, none⟩ = some (.int .i64 s) := by { rw [← hW]; clear hW; go_simp }
 have q1 : w6.cell? ⟨w.heap.size, 1, none⟩ = some (.slice a n c) := by { rw [← hW]; clear hW; go_simp }
 have q2 : w6.cell? ⟨w.heap.size, 2, none⟩ = some (.int .i64 t) := by { rw [← hW]; clear hW; go_simp }
 have q3 : w6.cell? ⟨w.heap.size, 3, none⟩ = some (.slice a2 n2 c2) := by { rw [← hW]; clear hW; go_simp }
 have z0 : w6.cell? ⟨w.heap.size + 1, 0, none⟩ = some (.int .i64 0) := by { rw [← hW]; clear hW; go_simp }
 have z1 : w6.cell? ⟨w.heap.size + 1, 1, none⟩ = some (.slice none 0 0) := by { rw [← hW]; clear hW; go_simp }
 have z2 : w6.cell? ⟨w.heap.size + 1, 2, none⟩ = some (.int .i64 0) := by { rw [← hW]; clear hW; go_simp }
 have z3 : w6.cell? ⟨w.heap.size + 1, 3, none⟩ = some (.slice none 0 0) := by { rw [← hW]; clear hW; go_simp }
 have f0 : w6.frozen? ⟨w.heap.size + 1, 0, none⟩ = false := by { rw [← hW]; clear hW; go_simp }
 have f1 : w6.frozen? ⟨w.heap.size + 1, 1, none⟩ = false := by { rw [← hW]; clear hW; go_simp }
 have f2 : w6.frozen? ⟨w.heap.size + 1, 2, none⟩ = false := by { rw [← hW]; clear hW; go_simp }
 have f3 : w6.frozen? ⟨w.heap.size + 1, 3, none⟩ = false := by { rw [← hW]; clear hW; go_simp }
 have l : w.heap.size + 1 < w6.heap.size := by rw [← hW]; simp
 have HB6 := Lib.hid hb6
 clear hW hb6
 refine wp_region_laterB (B := w.heap.size + 1) [0, 1, 3, 4] [2, 5, 6] (by kernel_rfl) (by kernel_rfl) ?_; simp only [List.filterMap_cons, List.filterMap_nil, List.getElem?_cons_zero, List.getElem?_cons_succ]; repeat (show wpQuiet _ _ _ _ (_ :: _) _; go_big_quiet_step (fail))
 refine wpQuiet_nil ?_
 refine wpTail_cons ?_
 go_wp2_with fail
 refine (wideNeg_any p _ q.num w6.drew (HD.out _ HB6.out.drew).1).mono ?_
 rintro e7 w7 ⟨v7, rfl, hb7, hW7⟩
 have hb7' : Below w6.heap.size w6 w7 := (Below.refl _ _).drew.trans hb7
 have HW7 := Lib.hid hW7
 have HDD := Lib.hid (HD.out _ (HB6.out.trans (hb7'.mono (by omega)))).2
 obtain ⟨a7, n7, c7, l7, rfl, _⟩ := hW7
 have hz7 := hb7'.size
 have z0a : w7.cell? ⟨w.heap.size + 1, 0, none⟩ = some (.int .i64 0) := bwc hb7'; have z1a : w7.cell? ⟨w.heap.size + 1, 1, none⟩ = some (.slice none 0 0) := bwc hb7'; have z2a : w7.cell? ⟨w.heap.size + 1, 2, none⟩ = some (.int .i64 0) := bwc hb7'; have z3a : w7.cell? ⟨w.heap.size + 1, 3, none⟩ = some (.slice none 0 0) := bwc hb7'; have f0a : w7.frozen? ⟨w.heap.size + 1, 0, none⟩ = false := bwf hb7'; have f1a : w7.frozen? ⟨w.heap.size + 1, 1, none⟩ = false := bwf hb7'; have f2a : w7.frozen? ⟨w.heap.size + 1, 2, none⟩ = false := bwf hb7'; have f3a : w7.frozen? ⟨w.heap.size + 1, 3, none⟩ = false := bwf hb7'; have la : w.heap.size + 1 < w7.heap.size := by { omega }
 have HB7 := Lib.hid hb7'
 clear hb7 hb7' HD z0 z1 z2 z3 f0 f1 f2 f3 l
 obtain ⟨s7, hs7⟩ : ∃ s, s = (-q.num).sign := ⟨_, rfl⟩
 rw [← hs7] at HW7 ⊢
 clear hs7
 go_wp2_with fail
 refine tailL_mk (HB7.out.mono (by omega)) ?_
 refine wpTail_cons ?_
 go_wp2_with fail
 refine tailL_mk (HB7.out.mono (by omega)) ?_
 refine wpTail_cons ?_
 go_wp2_with fail
 refine tailL_mk (((((HB7.out.mono (show w.heap.size + 1 ≤ _ by omega)).setCell (by simp) _).setCell (by simp) _).setCell (by simp) _).setCell (by simp) _) ?_
 refine wpTail_nil ?_
 go_wp2
 refine bodyPost_ret (v := .agg #[.int .i64 s7, .slice a7 n7 c7, .int .i64 t, .slice a2 n2 c2]) (by simp [results, Tryz.results147, go_sem, *]) rfl ⟨_, rfl, ?_, ?_⟩
 ·exact ((((HB6.out.trans (HB7.out.mono (by omega))).setCell (by simp) _).setCell (by simp) _).setCell (by simp) _).setCell (by simp) _
 ·refine RatioR.kept (w := w7) (RatioR.of_parts (by rw [Rat.neg_num]; exact HW7.out) (by rw [neg_den]; exact HDD.out)) (by simp) (fun b hb => ?_)
  have := HP.out b hb
  rw [Go.Deep.blk_setCell_other _ _ _ _ (by simp; omega), Go.Deep.blk_setCell_other _ _ _ _ (by simp; omega), Go.Deep.blk_setCell_other _ _ _ _ (by simp; omega), Go.Deep.blk_setCell_other _ _ _ _ (by simp; omega)]
set_option maxHeartbeats 400000 in
set_option maxRecDepth 100000 in
theorem ratioSub_any (p : Nat → Prop) (va vb : Value) (a b : Rat) (K M : Nat) (w : World) (h : RatioR p w va a) (h' : RatioR p w vb b) (hp : ∀ b, p b → b < w.heap.size) (ha : Sz K a) (hb : Sz M b) (hK : K + M + 1 ≤ 800000) :
    Calls Tryz.prog 119 #[va, vb] w fun e' w' => ∃ v', e' = .returned v' ∧ Below w.heap.size w w' ∧ RatioR (fun b => w.heap.size ≤ b) w' v' (a - b) := by
 have HN := Lib.hid (fun (w' : World) (hb : Below w.heap.size w w') => ratioNeg_any p vb b w' (h'.below hb) (fun b hb2 => Nat.lt_of_lt_of_le (hp b hb2) hb.size))
 have HAD := Lib.hid (fun (w' : World) (v : Value) (hbb : Below w.heap.size w w') (hv : RatioR p w' v (-b)) => ratioAdd_any p va v a (-b) K M w' (h.below hbb) hv ha (sz_neg hb) hK)
 clear hp ha hb
 obtain ⟨s, a1, n, c, t, a2, n2, c2, rfl, _, _⟩ := h
 obtain ⟨s', a1', n', c', t', a2', n2', c2', rfl, _, _⟩ := h'
 go_enter Tryz.func119, Tryz.ntmps119
 go_wp2_with fail
 generalize hW : World.alloc _ _ = w6
 have hb6 : Below w.heap.size w w6 := by rw [← hW]; (first|exact bwg|go_size)
 have hz6 : w6.heap.size = w.heap.size + 1 + 1 + 1 := by rw [← hW]; simp
 have q0 : w6.cell? ⟨w.heap.size, 0, none⟩ = some (.int .i64 s) := by { rw [← hW]; clear hW; go_simp }
 have q1 : w6.cell? ⟨w.heap.size, 1, none⟩ = some (.slice a1 n c) := by { rw [← hW]; clear hW; go_simp }
 have q2 : w6.cell? ⟨w.heap.size, 2, none⟩ = some (.int .i64 t) := by { rw [← hW]; clear hW; go_simp }
 have q3 : w6.cell? ⟨w.heap.size, 3, none⟩ = some (.slice a2 n2 c2) := by { rw [← hW]; clear hW; go_simp }
 have r0 : w6.cell? ⟨w.heap.size + 1, 0, none⟩ = some (.int .i64 s') := by { rw [← hW]; clear hW; go_simp }
 have r1 : w6.cell? ⟨w.heap.size + 1, 1, none⟩ = some (.slice a1' n' c') := by { rw [← hW]; clear hW; go_simp }
 have r2 : w6.cell? ⟨w.heap.size + 1, 2, none⟩ = some (.int .i64 t') := by { rw [← hW]; clear hW; go_simp }
 have r3 : w6.cell? ⟨w.heap.size + 1, 3, none⟩ = some (.slice a2' n2' c2') := by { rw [← hW]; clear hW; go_simp }
 have z0 : w6.cell? ⟨w.heap.size + 1 + 1, 0, none⟩ = some (.int .i64 0) := by { rw [← hW]; clear hW; go_simp }
 have z1 : w6.cell? ⟨w.heap.size + 1 + 1, 1, none⟩ = some (.slice none 0 0) := by { rw [← hW]; clear hW; go_simp }
 have z2 : w6.cell? ⟨w.heap.size + 1 + 1, 2, none⟩ = some (.int .i64 0) := by { rw [← hW]; clear hW; go_simp }
 have z3 : w6.cell? ⟨w.heap.size + 1 + 1, 3, none⟩ = some (.slice none 0 0) := by { rw [← hW]; clear hW; go_simp }
 have f0 : w6.frozen? ⟨w.heap.size + 1 + 1, 0, none⟩ = false := by { rw [← hW]; clear hW; go_simp }
 have f1 : w6.frozen? ⟨w.heap.size + 1 + 1, 1, none⟩ = false := by { rw [← hW]; clear hW; go_simp }
 have f2 : w6.frozen? ⟨w.heap.size + 1 + 1, 2, none⟩ = false := by { rw [← hW]; clear hW; go_simp }
 have f3 : w6.frozen? ⟨w.heap.size + 1 + 1, 3, none⟩ = false := by { rw [← hW]; clear hW; go_simp }
 have l : w.heap.size + 1 + 1 < w6.heap.size := by rw [← hW]; simp
 have HB6 := Lib.hid hb6
 clear hW hb6
 refine wp_region_laterB (B := w.heap.size + 1 + 1) [0, 1] [2, 3, 4] (by kernel_rfl) (by kernel_rfl) ?_; simp only [List.filterMap_cons, List.filterMap_nil, List.getElem?_cons_zero, List.getElem?_cons_succ]; repeat (show wpQuiet _ _ _ _ (_ :: _) _; go_big_quiet_step (fail))
 refine wpQuiet_nil ?_
 refine wpTail_cons ?_
 go_wp2_with fail
 refine (HN.out _ HB6.out.drew).mono ?_
 rintro e7 w7 ⟨v7, rfl, hb7, hW7⟩
 have hb7' : Below w6.heap.size w6 w7 := (Below.refl _ _).drew.trans hb7
 have HAD7 := Lib.hid (HAD.out w7 v7 (HB6.out.trans (hb7'.mono (by omega))) hW7)
 obtain ⟨s7, a7, n7, c7, t7, a7', n7', c7', rfl, _⟩ := hW7
 have hz7 := hb7'.size
 have z0a : w7.cell? ⟨w.heap.size + 1 + 1, 0, none⟩ = some (.int .i64 0) := bwc hb7'; have z1a : w7.cell? ⟨w.heap.size + 1 + 1, 1, none⟩ = some (.slice none 0 0) := bwc hb7'; have z2a : w7.cell? ⟨w.heap.size + 1 + 1, 2, none⟩ = some (.int .i64 0) := bwc hb7'; have z3a : w7.cell? ⟨w.heap.size + 1 + 1, 3, none⟩ = some (.slice none 0 0) := bwc hb7'; have f0a : w7.frozen? ⟨w.heap.size + 1 + 1, 0, none⟩ = false := bwf hb7'; have f1a : w7.frozen? ⟨w.heap.size + 1 + 1, 1, none⟩ = false := bwf hb7'; have f2a : w7.frozen? ⟨w.heap.size + 1 + 1, 2, none⟩ = false := bwf hb7'; have f3a : w7.frozen? ⟨w.heap.size + 1 + 1, 3, none⟩ = false := bwf hb7'; have la : w.heap.size + 1 + 1 < w7.heap.size := by { omega }
 have HB7 := Lib.hid hb7'
 clear hb7 hb7' HAD HN z0 z1 z2 z3 f0 f1 f2 f3 l
 go_wp2_with fail
 refine tailL_mk (HB7.out.mono (by omega)) ?_
 refine wpTail_cons ?_
 go_wp2_with fail
 refine HAD7.out.mono ?_
 rintro e8 w8 ⟨v8, rfl, hb8, hW8⟩
 have hb8' : Below w6.heap.size w6 w8 := HB7.out.trans (hb8.mono hz7)
 have HW8 := Lib.hid hW8
 obtain ⟨s8, a8, n8, c8, t8, a8', n8', c8', rfl, _⟩ := hW8
 have hz8 := hb8'.size
 have z0b : w8.cell? ⟨w.heap.size + 1 + 1, 0, none⟩ = some (.int .i64 0) := bwc hb8; have z1b : w8.cell? ⟨w.heap.size + 1 + 1, 1, none⟩ = some (.slice none 0 0) := bwc hb8; have z2b : w8.cell? ⟨w.heap.size + 1 + 1, 2, none⟩ = some (.int .i64 0) := bwc hb8; have z3b : w8.cell? ⟨w.heap.size + 1 + 1, 3, none⟩ = some (.slice none 0 0) := bwc hb8; have f0b : w8.frozen? ⟨w.heap.size + 1 + 1, 0, none⟩ = false := bwf hb8; have f1b : w8.frozen? ⟨w.heap.size + 1 + 1, 1, none⟩ = false := bwf hb8; have f2b : w8.frozen? ⟨w.heap.size + 1 + 1, 2, none⟩ = false := bwf hb8; have f3b : w8.frozen? ⟨w.heap.size + 1 + 1, 3, none⟩ = false := bwf hb8; have lb : w.heap.size + 1 + 1 < w8.heap.size := by { omega }
 have HB8 := Lib.hid hb8'
 clear hb8 hb8' HAD7 z0a z1a z2a z3a f0a f1a f2a f3a la
 go_wp2_with fail
 refine tailL_mk (HB8.out.mono (by omega)) ?_
 refine wpTail_cons ?_
 go_wp2_with fail
 refine tailL_mk (((((HB8.out.mono (show w.heap.size + 1 + 1 ≤ _ by omega)).setCell (by simp) _).setCell (by simp) _).setCell (by simp) _).setCell (by simp) _) ?_
 refine wpTail_nil ?_
 go_wp2
 refine bodyPost_ret (v := .agg #[.int .i64 s8, .slice a8 n8 c8, .int .i64 t8, .slice a8' n8' c8']) (by simp [results, Tryz.results119, go_sem, *]) rfl ⟨_, rfl, ?_, ?_⟩
 ·exact ((((HB6.out.trans (HB8.out.mono (by omega))).setCell (by simp; omega) _).setCell (by simp; omega) _).setCell (by simp; omega) _).setCell (by simp; omega) _
 ·rw [Rat.sub_eq_add_neg]
  refine RatioR.mono (p := fun b => w.heap.size + 3 ≤ b) (RatioR.kept (w := w8) (HW8.out.mono (fun b hb => by omega)) (by simp) (fun b hb => ?_)) (fun b hb => by omega)
  rw [Go.Deep.blk_setCell_other _ _ _ _ (by simp; omega), Go.Deep.blk_setCell_other _ _ _ _ (by simp; omega), Go.Deep.blk_setCell_other _ _ _ _ (by simp; omega), Go.Deep.blk_setCell_other _ _ _ _ (by simp; omega)]
set_option maxRecDepth 100000 in
theorem ratioSign_any (p : Nat → Prop) (v : Value) (q : Rat) (w : World) (h : RatioR p w v q) :
    Calls Tryz.prog 146 #[v] w fun e' w' => e' = .returned (.int .i64 q.num.sign) ∧ Below w.heap.size w w' := by
 have HQ := Lib.hid h
 obtain ⟨s, a, n, c, t, a2, n2, c2, rfl, _, _⟩ := h
 have HD := Lib.hid (fun (w' : World) (hb : Below w.heap.size w w') => wideSign_any p _ q.num w' (HQ.out.below hb).parts.1)
 clear HQ
 obtain ⟨sq, hsq⟩ : ∃ x, x = q.num.sign := ⟨_, rfl⟩
 rw [← hsq] at HD ⊢
 clear hsq
 go_enter Tryz.func146, Tryz.ntmps146
 go_wp2_with fail
 refine (HD.out _ (by (first|exact bwg|go_size))).mono ?_
 rintro e7 w7 ⟨rfl, hb7⟩
 have HB7 := Lib.hid (Below.trans (show Below w.heap.size w _ by (first|exact bwg|go_size)) (hb7.mono (by simp)))
 clear hb7 HD
 go_wp2
 go_ret
 exact ⟨rfl, HB7.out⟩
theorem int_digits {n : Int} (h0 : -9223372036854775807 ≤ n) (h1 : n ≤ 9223372036854775807) : (n.natAbs : Int) < pw 3 := by simp only [pw]; omega
set_option maxHeartbeats 400000 in
set_option maxRecDepth 100000 in
theorem ratioInt_any (x : Int) (w : World) (h0 : -9223372036854775807 ≤ x) (h1 : x ≤ 9223372036854775807) :
    Calls Tryz.prog 116 #[.int .i64 x] w fun e' w' => ∃ v', e' = .returned v' ∧ Below w.heap.size w w' ∧ RatioR (fun b => w.heap.size ≤ b) w' v' (x : Rat) := by
 go_enter Tryz.func116, Tryz.ntmps116
 go_wp2_with fail
 generalize hW : World.alloc _ _ = w6
 have hb6 : Below w.heap.size w w6 := by rw [← hW]; (first|exact bwg|go_size)
 have hz6 : w6.heap.size = w.heap.size + 1 := by rw [← hW]; simp
 have z0 : w6.cell? ⟨w.heap.size, 0, none⟩ = some (.int .i64 0) := by { rw [← hW]; clear hW; go_simp }
 have z1 : w6.cell? ⟨w.heap.size, 1, none⟩ = some (.slice none 0 0) := by { rw [← hW]; clear hW; go_simp }
 have z2 : w6.cell? ⟨w.heap.size, 2, none⟩ = some (.int .i64 0) := by { rw [← hW]; clear hW; go_simp }
 have z3 : w6.cell? ⟨w.heap.size, 3, none⟩ = some (.slice none 0 0) := by { rw [← hW]; clear hW; go_simp }
 have f0 : w6.frozen? ⟨w.heap.size, 0, none⟩ = false := by { rw [← hW]; clear hW; go_simp }
 have f1 : w6.frozen? ⟨w.heap.size, 1, none⟩ = false := by { rw [← hW]; clear hW; go_simp }
 have f2 : w6.frozen? ⟨w.heap.size, 2, none⟩ = false := by { rw [← hW]; clear hW; go_simp }
 have f3 : w6.frozen? ⟨w.heap.size, 3, none⟩ = false := by { rw [← hW]; clear hW; go_simp }
 have l : w.heap.size < w6.heap.size := by rw [← hW]; simp
 have HB6 := Lib.hid hb6
 clear hW hb6
 refine (wideOfInt_any x w6 h0 h1).mono ?_
 rintro e7 w7 ⟨v7, rfl, hb7, hW7⟩
 have hz7 := hb7.size
 have z0a : w7.cell? ⟨w.heap.size, 0, none⟩ = some (.int .i64 0) := bwc hb7; have z1a : w7.cell? ⟨w.heap.size, 1, none⟩ = some (.slice none 0 0) := bwc hb7; have z2a : w7.cell? ⟨w.heap.size, 2, none⟩ = some (.int .i64 0) := bwc hb7; have z3a : w7.cell? ⟨w.heap.size, 3, none⟩ = some (.slice none 0 0) := bwc hb7; have f0a : w7.frozen? ⟨w.heap.size, 0, none⟩ = false := bwf hb7; have f1a : w7.frozen? ⟨w.heap.size, 1, none⟩ = false := bwf hb7; have f2a : w7.frozen? ⟨w.heap.size, 2, none⟩ = false := bwf hb7; have f3a : w7.frozen? ⟨w.heap.size, 3, none⟩ = false := bwf hb7; have la : w.heap.size < w7.heap.size := by { omega }
 have HB7 := Lib.hid hb7
 have HW7 := Lib.hid hW7
 obtain ⟨a7, n7, c7, l7, rfl, _⟩ := hW7
 clear hb7 z0 z1 z2 z3 f0 f1 f2 f3 l
 obtain ⟨s7, hs7⟩ : ∃ s, s = x.sign := ⟨_, rfl⟩
 rw [← hs7] at HW7 ⊢
 clear hs7
 go_wp2_with fail
 refine (wideOfInt_any 1 w7 (by omega) (by omega)).mono ?_
 rintro e8 w8 ⟨v8, rfl, hb8, hW8⟩
 have hz8 := hb8.size
 have z0b : w8.cell? ⟨w.heap.size, 0, none⟩ = some (.int .i64 0) := bwc hb8; have z1b : w8.cell? ⟨w.heap.size, 1, none⟩ = some (.slice none 0 0) := bwc hb8; have z2b : w8.cell? ⟨w.heap.size, 2, none⟩ = some (.int .i64 0) := bwc hb8; have z3b : w8.cell? ⟨w.heap.size, 3, none⟩ = some (.slice none 0 0) := bwc hb8; have f0b : w8.frozen? ⟨w.heap.size, 0, none⟩ = false := bwf hb8; have f1b : w8.frozen? ⟨w.heap.size, 1, none⟩ = false := bwf hb8; have f2b : w8.frozen? ⟨w.heap.size, 2, none⟩ = false := bwf hb8; have f3b : w8.frozen? ⟨w.heap.size, 3, none⟩ = false := bwf hb8; have lb : w.heap.size < w8.heap.size := by { omega }
 have HB8 := Lib.hid (HB7.out.trans (hb8.mono hz7))
 have HW78 := Lib.hid (HW7.out.below hb8)
 have HW8 := Lib.hid hW8
 obtain ⟨a8, n8, c8, l8, rfl, _⟩ := hW8
 clear hb8 z0a z1a z2a z3a f0a f1a f2a f3a la HW7
 obtain ⟨s8, hs8⟩ : ∃ s, s = (1 : Int).sign := ⟨_, rfl⟩
 rw [← hs8] at HW8 ⊢
 clear hs8
 go_wp2
 refine bodyPost_ret (v := .agg #[.int .i64 s7, .slice a7 n7 c7, .int .i64 s8, .slice a8 n8 c8]) (by simp [results, Tryz.results116, go_sem, *]) rfl ⟨_, rfl, ?_, ?_⟩
 ·exact ((((HB6.out.trans (HB8.out.mono (by omega))).setCell (by simp) _).setCell (by simp) _).setCell (by simp) _).setCell (by simp) _
 ·refine RatioR.mono (p := fun b => w.heap.size + 1 ≤ b) (RatioR.kept (w := w8) (RatioR.of_parts (by rw [Rat.num_intCast]; exact HW78.out.mono (fun b hb => by omega)) (by rw [Rat.den_intCast]; exact HW8.out.mono (fun b hb => by omega))) (by simp) (fun b hb => ?_)) (fun b hb => by omega)
  rw [Go.Deep.blk_setCell_other _ _ _ _ (by simp; omega), Go.Deep.blk_setCell_other _ _ _ _ (by simp; omega), Go.Deep.blk_setCell_other _ _ _ _ (by simp; omega), Go.Deep.blk_setCell_other _ _ _ _ (by simp; omega)]
set_option maxHeartbeats 400000 in
set_option maxRecDepth 100000 in
theorem ratioOf_any (x y : Int) (w : World) (hy : y ≠ 0) (h0 : -9223372036854775807 ≤ x) (h1 : x ≤ 9223372036854775807) (h2 : -9223372036854775807 ≤ y) (h3 : y ≤ 9223372036854775807) :
    Calls Tryz.prog 149 #[.int .i64 x, .int .i64 y] w fun e' w' => ∃ v', e' = .returned v' ∧ Below w.heap.size w w' ∧ RatioR (fun b => w.heap.size ≤ b) w' v' (Rat.divInt x y) := by
 have HY := Lib.hid hy
 clear hy
 go_enter Tryz.func149, Tryz.ntmps149
 go_wp2_with fail
 generalize hW : World.alloc _ _ = w6
 have hb6 : Below w.heap.size w w6 := by rw [← hW]; (first|exact bwg|go_size)
 have hz6 : w6.heap.size = w.heap.size + 1 := by rw [← hW]; simp
 have z0 : w6.cell? ⟨w.heap.size, 0, none⟩ = some (.int .i64 0) := by { rw [← hW]; clear hW; go_simp }
 have z1 : w6.cell? ⟨w.heap.size, 1, none⟩ = some (.slice none 0 0) := by { rw [← hW]; clear hW; go_simp }
 have z2 : w6.cell? ⟨w.heap.size, 2, none⟩ = some (.int .i64 0) := by { rw [← hW]; clear hW; go_simp }
 have z3 : w6.cell? ⟨w.heap.size, 3, none⟩ = some (.slice none 0 0) := by { rw [← hW]; clear hW; go_simp }
 have f0 : w6.frozen? ⟨w.heap.size, 0, none⟩ = false := by { rw [← hW]; clear hW; go_simp }
 have f1 : w6.frozen? ⟨w.heap.size, 1, none⟩ = false := by { rw [← hW]; clear hW; go_simp }
 have f2 : w6.frozen? ⟨w.heap.size, 2, none⟩ = false := by { rw [← hW]; clear hW; go_simp }
 have f3 : w6.frozen? ⟨w.heap.size, 3, none⟩ = false := by { rw [← hW]; clear hW; go_simp }
 have l : w.heap.size < w6.heap.size := by rw [← hW]; simp
 have HB6 := Lib.hid hb6
 clear hW hb6
 refine (wideOfInt_any x w6 h0 h1).mono ?_
 rintro e7 w7 ⟨v7, rfl, hb7, hW7⟩
 have hz7 := hb7.size
 have z0a : w7.cell? ⟨w.heap.size, 0, none⟩ = some (.int .i64 0) := bwc hb7; have z1a : w7.cell? ⟨w.heap.size, 1, none⟩ = some (.slice none 0 0) := bwc hb7; have z2a : w7.cell? ⟨w.heap.size, 2, none⟩ = some (.int .i64 0) := bwc hb7; have z3a : w7.cell? ⟨w.heap.size, 3, none⟩ = some (.slice none 0 0) := bwc hb7; have f0a : w7.frozen? ⟨w.heap.size, 0, none⟩ = false := bwf hb7; have f1a : w7.frozen? ⟨w.heap.size, 1, none⟩ = false := bwf hb7; have f2a : w7.frozen? ⟨w.heap.size, 2, none⟩ = false := bwf hb7; have f3a : w7.frozen? ⟨w.heap.size, 3, none⟩ = false := bwf hb7; have la : w.heap.size < w7.heap.size := by { omega }
 have HB7 := Lib.hid hb7
 have HW7 := Lib.hid hW7
 obtain ⟨a7, n7, c7, l7, rfl, _⟩ := hW7
 clear hb7 z0 z1 z2 z3 f0 f1 f2 f3 l
 obtain ⟨s7, hs7⟩ : ∃ s, s = x.sign := ⟨_, rfl⟩
 rw [← hs7] at HW7 ⊢
 clear hs7
 go_wp2_with fail
 refine (wideOfInt_any y w7 h2 h3).mono ?_
 rintro e8 w8 ⟨v8, rfl, hb8, hW8⟩
 have hz8 := hb8.size
 have z0b : w8.cell? ⟨w.heap.size, 0, none⟩ = some (.int .i64 0) := bwc hb8; have z1b : w8.cell? ⟨w.heap.size, 1, none⟩ = some (.slice none 0 0) := bwc hb8; have z2b : w8.cell? ⟨w.heap.size, 2, none⟩ = some (.int .i64 0) := bwc hb8; have z3b : w8.cell? ⟨w.heap.size, 3, none⟩ = some (.slice none 0 0) := bwc hb8; have f0b : w8.frozen? ⟨w.heap.size, 0, none⟩ = false := bwf hb8; have f1b : w8.frozen? ⟨w.heap.size, 1, none⟩ = false := bwf hb8; have f2b : w8.frozen? ⟨w.heap.size, 2, none⟩ = false := bwf hb8; have f3b : w8.frozen? ⟨w.heap.size, 3, none⟩ = false := bwf hb8; have lb : w.heap.size < w8.heap.size := by { omega }
 have HB8 := Lib.hid (HB7.out.trans (hb8.mono hz7))
 have HMK := Lib.hid (fun e => ratioMake_any (fun b => w.heap.size + 1 ≤ b ∧ b < w8.heap.size) _ _ x y 3 w8 ((HW7.out.below hb8).here.mono (fun b hb => by omega)) (hW8.here.mono (fun b hb => by omega)) (fun b hb => hb.2) HY.out (int_digits h0 h1) (int_digits h2 h3) e)
 obtain ⟨a8, n8, c8, l8, rfl, _⟩ := hW8
 clear hb8 z0a z1a z2a z3a f0a f1a f2a f3a la HW7
 obtain ⟨s8, hs8⟩ : ∃ s, s = y.sign := ⟨_, rfl⟩
 rw [← hs8] at HMK ⊢
 clear hs8
 go_wp2_with fail
 refine (HMK.out (by omega)).mono ?_
 rintro e9 w9 ⟨v9, rfl, hb9, hW9⟩
 have hz9 := hb9.size
 have z0c : w9.cell? ⟨w.heap.size, 0, none⟩ = some (.int .i64 0) := bwc hb9; have z1c : w9.cell? ⟨w.heap.size, 1, none⟩ = some (.slice none 0 0) := bwc hb9; have z2c : w9.cell? ⟨w.heap.size, 2, none⟩ = some (.int .i64 0) := bwc hb9; have z3c : w9.cell? ⟨w.heap.size, 3, none⟩ = some (.slice none 0 0) := bwc hb9; have f0c : w9.frozen? ⟨w.heap.size, 0, none⟩ = false := bwf hb9; have f1c : w9.frozen? ⟨w.heap.size, 1, none⟩ = false := bwf hb9; have f2c : w9.frozen? ⟨w.heap.size, 2, none⟩ = false := bwf hb9; have f3c : w9.frozen? ⟨w.heap.size, 3, none⟩ = false := bwf hb9; have lc : w.heap.size < w9.heap.size := by { omega }
 have HB9 := Lib.hid (HB8.out.trans (hb9.mono (by omega)))
 have HW9 := Lib.hid (hW9.mono (p' := fun b => w.heap.size + 1 ≤ b) (fun b hb => by rcases hb with hb | hb; exact hb.1; omega))
 obtain ⟨t1, b1, o1, k1, t2, b2, o2, k2, rfl, _⟩ := hW9
 clear hb9 HMK z0b z1b z2b z3b f0b f1b f2b f3b lb
 go_wp2
 refine bodyPost_ret (v := .agg #[.int .i64 t1, .slice b1 o1 k1, .int .i64 t2, .slice b2 o2 k2]) (by simp [results, Tryz.results149, go_sem, *]) rfl ⟨_, rfl, ?_, ?_⟩
 ·exact ((((HB6.out.trans (HB9.out.mono (by omega))).setCell (by simp) _).setCell (by simp) _).setCell (by simp) _).setCell (by simp) _
 ·refine RatioR.mono (p := fun b => w.heap.size + 1 ≤ b) (RatioR.kept (w := w9) HW9.out (by simp) (fun b hb => ?_)) (fun b hb => by omega)
  rw [Go.Deep.blk_setCell_other _ _ _ _ (by simp; omega), Go.Deep.blk_setCell_other _ _ _ _ (by simp; omega), Go.Deep.blk_setCell_other _ _ _ _ (by simp; omega), Go.Deep.blk_setCell_other _ _ _ _ (by simp; omega)]
/- Fractions of the base; the reference's steepest piece. -/
theorem bisSmall_any (a b : Int) (w : World) : Calls Tryz.prog 169 #[.agg #[.int .i64 a, .int .i64 b]] w fun e' w' => e' = .returned (.bool (wi a (-1000000000) 1000000000 && wi b 1 1000000000)) ∧ Below w.heap.size w w' := by
 cases h : wi a (-1000000000) 1000000000
 all_goals
  go_enter Tryz.func169, Tryz.ntmps169
  go_wp2_with (go_at_call 45; refine (bwithin_any _ _ _ _).mono ?_; rintro e w' ⟨rfl, rfl⟩)
  go_ret
  refine ⟨ret_bool (by simp), ?_⟩
  (first|exact bwg|go_size)
/- Quotients in memory: RatioFrac. -/
def smallQ (q : Rat) : Bool := wi q.num (-1000000000) 1000000000 && wi (q.den : Int) 1 1000000000
set_option maxHeartbeats 1000000 in
set_option maxRecDepth 100000 in
theorem ratioFrac_any (p : Nat → Prop) (v : Value) (q : Rat) (w : World) (h : RatioR p w v q) :
    Calls Tryz.prog 148 #[v] w fun e' w' => e' = .returned (if smallQ q = true then .tuple #[.agg #[.int .i64 q.num, .int .i64 q.den], .bool true] else .tuple #[.agg #[.int .i64 0, .int .i64 0], .bool false]) ∧ Below w.heap.size w w' := by
 have HR := Lib.hid h
 obtain ⟨s, a, n, c, t, a2, n2, c2, rfl, _, _⟩ := h
 have HI1 := Lib.hid (fun (w' : World) (hb : Below w.heap.size w w') => wideInt_any p _ q.num w' (HR.out.below hb).parts.1)
 have HI2 := Lib.hid (fun (w' : World) (hb : Below w.heap.size w w') => wideInt_any p _ (q.den : Int) w' (HR.out.below hb).parts.2)
 clear HR
 obtain ⟨x, hx⟩ : ∃ x, x = q.num := ⟨_, rfl⟩
 obtain ⟨y, hy⟩ : ∃ y : Int, y = (q.den : Int) := ⟨_, rfl⟩
 obtain ⟨b1, hb1⟩ : ∃ b, b = decide ((x.natAbs : Int) < 1000000000000000000) := ⟨_, rfl⟩
 obtain ⟨b2, hb2⟩ : ∃ b, b = decide ((y.natAbs : Int) < 1000000000000000000) := ⟨_, rfl⟩
 obtain ⟨b3, hb3⟩ : ∃ b, b = (wi x (-1000000000) 1000000000 && wi y 1 1000000000) := ⟨_, rfl⟩
 have hS : smallQ q = b3 := by rw [hb3]; unfold smallQ; rw [hx, hy]
 rw [← hx] at HI1
 rw [← hy] at HI2
 rw [hS, ← hx, ← hy]
 have hbd1 : b1 = true → -999999999999999999 ≤ x ∧ x ≤ 999999999999999999 := fun h => by rw [h] at hb1; have := of_decide_eq_true hb1.symm; omega
 have hi1 : ∀ w', (if (x.natAbs : Int) < 1000000000000000000 then Value.tuple #[.int .i64 x, .bool true] else .tuple #[.int .i64 0, .bool false]) = (if b1 = true then Value.tuple #[.int .i64 x, .bool true] else .tuple #[.int .i64 0, .bool false]) ∧ (w' : World) = w' := fun w' => ⟨by rw [hb1]; simp, rfl⟩
 have hi2 : (if (y.natAbs : Int) < 1000000000000000000 then Value.tuple #[.int .i64 y, .bool true] else .tuple #[.int .i64 0, .bool false]) = (if b2 = true then Value.tuple #[.int .i64 y, .bool true] else .tuple #[.int .i64 0, .bool false]) := by rw [hb2]; simp
 rw [(hi1 w).1] at HI1
 rw [hi2] at HI2
 have HSM := Lib.hid (fun w' => bisSmall_any x y w')
 rw [← hb3] at HSM
 have hq1 : b1 = false → b3 = false := fun h => by
  rw [h] at hb1
  have h1 := of_decide_eq_false hb1.symm
  rw [hb3]
  have : wi x (-1000000000) 1000000000 = false := wi_false.2 (by omega)
  rw [this]; rfl
 have hq2 : b2 = false → b3 = false := fun h => by
  rw [h] at hb2
  have h1 := of_decide_eq_false hb2.symm
  rw [hb3]
  have : wi y 1 1000000000 = false := wi_false.2 (by omega)
  rw [this, Bool.and_false]
 clear hi1 hi2 hbd1 hb1 hb2 hb3 hS hx hy
 go_enter Tryz.func148, Tryz.ntmps148
 go_wp2_with fail
 refine (HI1.out _ (by (first|exact bwg|go_size))).mono ?_
 rintro e5 w5 ⟨rfl, hb5⟩
 have hz5 := hb5.size
 simp only [World.size_alloc] at hz5
 have q0 : w5.cell? ⟨w.heap.size, 0, none⟩ = some (.int .i64 s) := bwc hb5; have q1 : w5.cell? ⟨w.heap.size, 1, none⟩ = some (.slice a n c) := bwc hb5; have q2 : w5.cell? ⟨w.heap.size, 2, none⟩ = some (.int .i64 t) := bwc hb5; have q3 : w5.cell? ⟨w.heap.size, 3, none⟩ = some (.slice a2 n2 c2) := bwc hb5; have z0 : w5.cell? ⟨w.heap.size + 1, 0, none⟩ = some (.int .i64 0) := bwc hb5; have z1 : w5.cell? ⟨w.heap.size + 1, 1, none⟩ = some (.int .i64 0) := bwc hb5; have f0 : w5.frozen? ⟨w.heap.size + 1, 0, none⟩ = false := bwf hb5; have f1 : w5.frozen? ⟨w.heap.size + 1, 1, none⟩ = false := bwf hb5
 have HBv := Lib.hid (show Below w.heap.size w w5 by (first|exact bwg|go_size))
 clear hb5
 cases b1
 all_goals
  go_wp2_with fail
  refine (HI2.out _ HBv.out).mono ?_
  rintro e6 w6 ⟨rfl, hb6⟩
  have hz6 := hb6.size
  have z0' : w6.cell? ⟨w.heap.size + 1, 0, none⟩ = some (.int .i64 0) := bwc hb6; have z1' : w6.cell? ⟨w.heap.size + 1, 1, none⟩ = some (.int .i64 0) := bwc hb6; have f0' : w6.frozen? ⟨w.heap.size + 1, 0, none⟩ = false := bwf hb6; have f1' : w6.frozen? ⟨w.heap.size + 1, 1, none⟩ = false := bwf hb6; have l' : w.heap.size + 1 < w6.heap.size := by { omega }
  have HBv := Lib.hid (HBv.out.trans (hb6.mono (by omega)))
  clear hb6 q0 q1 q2 q3 z0 z1 f0 f1
 ·obtain rfl : b3 = false := hq1 (by first | rfl | trivial)
  clear hq1 hq2
  cases b2
  ·skip
   go_wp2
   refine bodyPost_ret (v := .tuple #[.agg #[.int .i64 0, .int .i64 0], .bool false]) (by simp [results, Tryz.results148, go_sem, *]) rfl ⟨by first | rfl | simp, ?_⟩
   have := HBv.out
   (first|exact bwg|go_size)
  ·skip
   go_wp2
   refine bodyPost_ret (v := .tuple #[.agg #[.int .i64 0, .int .i64 0], .bool false]) (by simp [results, Tryz.results148, go_sem, *]) rfl ⟨by first | rfl | simp, ?_⟩
   have := HBv.out
   (first|exact bwg|go_size)
 ·cases b2
  ·obtain rfl : b3 = false := hq2 (by first | rfl | trivial)
   clear hq1 hq2
   go_wp2
   refine bodyPost_ret (v := .tuple #[.agg #[.int .i64 0, .int .i64 0], .bool false]) (by simp [results, Tryz.results148, go_sem, *]) rfl ⟨by first | rfl | simp, ?_⟩
   have := HBv.out
   (first|exact bwg|go_size)
  ·clear hq1 hq2
   go_wp2_with fail
   refine (HSM.out _).mono ?_
   rintro e7 w7 ⟨rfl, hb7⟩
   have hz7 := hb7.size
   simp only [World.size_alloc] at hz7
   have z0 : w7.cell? ⟨w.heap.size + 1, 0, none⟩ = some (.int .i64 0) := bwc hb7; have z1 : w7.cell? ⟨w.heap.size + 1, 1, none⟩ = some (.int .i64 0) := bwc hb7; have f0 : w7.frozen? ⟨w.heap.size + 1, 0, none⟩ = false := bwf hb7; have f1 : w7.frozen? ⟨w.heap.size + 1, 1, none⟩ = false := bwf hb7; have l : w.heap.size + 1 < w7.heap.size := by { omega }; have x0 : w7.cell? ⟨w6.heap.size, 0, none⟩ = some (.int .i64 x) := bwc hb7; have x1 : w7.cell? ⟨w6.heap.size, 1, none⟩ = some (.int .i64 y) := bwc hb7
   have HBv := Lib.hid (Below.trans (show Below w.heap.size w (w6.alloc _) from HBv.out.alloc (by omega) _) (hb7.mono (by simp; omega)))
   clear hb7 z0' z1' f0' f1' l'
   cases b3
   ·go_wp2
    refine bodyPost_ret (v := .tuple #[.agg #[.int .i64 0, .int .i64 0], .bool false]) (by simp [results, Tryz.results148, go_sem, *]) rfl ⟨rfl, ?_⟩
    have := HBv.out
    (first|exact bwg|go_size)
   ·go_wp2
    refine bodyPost_ret (v := .tuple #[.agg #[.int .i64 x, .int .i64 y], .bool true]) (by simp [results, Tryz.results148, go_sem, *]) rfl ⟨rfl, ?_⟩
    have := HBv.out
    (first|exact bwg|go_size)
/- The size of a quotient of small parts. No program in sight. -/
theorem sz_parts {p q : Int} (h1 : -9000000000 ≤ p ∧ p ≤ 9000000000) (h2 : 1 ≤ q ∧ q ≤ 9000000000) : Sz 2 (Rat.divInt p q) := sz_frac (by simp only [pw]; omega) (by omega) (by simp only [pw]; omega)
/- Quotients in memory: contracts in one form, without the solver. -/
def RB (w : World) (v : Value) (q : Rat) : Prop := RatioR (fun b => b < w.heap.size) w v q
theorem RB.below {w w' : World} {v : Value} {q : Rat} (h : RB w v q) (hb : Below w.heap.size w w') : RB w' v q :=
 (RatioR.below h hb).mono (fun b hlt => Nat.lt_of_lt_of_le hlt hb.size)
theorem RB.of {p : Nat → Prop} {w : World} {v : Value} {q : Rat} (h : RatioR p w v q) : RB w v q := h.here.mono (fun b hb => hb.2)
def RBPost (w : World) (q : Rat) (e' : Ending) (w' : World) : Prop :=
 ∃ (s : Int) (a : Option Addr) (n c : Nat) (t : Int) (b : Option Addr) (m d : Nat), e' = .returned (.agg #[.int .i64 s, .slice a n c, .int .i64 t, .slice b m d]) ∧ Below w.heap.size w w' ∧ RB w' (.agg #[.int .i64 s, .slice a n c, .int .i64 t, .slice b m d]) q ∧ Hid (RatioR (fun b => w.heap.size ≤ b) w' (.agg #[.int .i64 s, .slice a n c, .int .i64 t, .slice b m d]) q)
theorem RBPost.mk {w w' : World} {q : Rat} {e' : Ending} {v : Value} (he : e' = .returned v) (hb : Below w.heap.size w w') (h : RatioR (fun b => w.heap.size ≤ b) w' v q) : RBPost w q e' w' := by
 have H := h
 obtain ⟨s, a, n, c, t, b, m, d, rfl, _, _⟩ := h
 exact ⟨s, a, n, c, t, b, m, d, he, hb, RB.of H, Lib.hid H⟩
theorem rb_int (x : Int) (w : World) (h0 : -9223372036854775807 ≤ x) (h1 : x ≤ 9223372036854775807) : Calls Tryz.prog 116 #[.int .i64 x] w (RBPost w (x : Rat)) :=
 (ratioInt_any x w h0 h1).mono (fun _ _ ⟨_, he, hb, h⟩ => RBPost.mk he hb h)
theorem rb_sub (va vb : Value) (a b : Rat) (K M : Nat) (w : World) (h : RB w va a) (h' : RB w vb b) (ha : Sz K a) (hb : Sz M b) (hK : K + M + 1 ≤ 800000) : Calls Tryz.prog 119 #[va, vb] w (RBPost w (a - b)) :=
 (ratioSub_any _ va vb a b K M w h h' (fun _ hb => hb) ha hb hK).mono (fun _ _ ⟨_, he, hb, h⟩ => RBPost.mk he hb (h.mono (fun b hb => by omega)))
theorem rb_add (va vb : Value) (a b : Rat) (K M : Nat) (w : World) (h : RB w va a) (h' : RB w vb b) (ha : Sz K a) (hb : Sz M b) (hK : K + M + 1 ≤ 800000) : Calls Tryz.prog 117 #[va, vb] w (RBPost w (a + b)) :=
 (ratioAdd_any _ va vb a b K M w h h' ha hb hK).mono (fun _ _ ⟨_, he, hb, h⟩ => RBPost.mk he hb (h.mono (fun b hb => by omega)))
theorem rb_div (va vb : Value) (a b : Rat) (K M : Nat) (w : World) (h : RB w va a) (h' : RB w vb b) (hb0 : b ≠ 0) (ha : Sz K a) (hb : Sz M b) (hK : K + M ≤ 800000) : Calls Tryz.prog 141 #[va, vb] w (RBPost w (a / b)) :=
 (ratioDiv_any _ va vb a b K M w h h' hb0 ha hb hK).mono (fun _ _ ⟨_, he, hb, h⟩ => RBPost.mk he hb (h.mono (fun b hb => by omega)))
theorem rb_sign (v : Value) (q : Rat) (w : World) (h : RB w v q) : Calls Tryz.prog 146 #[v] w fun e' w' => e' = .returned (.int .i64 q.num.sign) ∧ Below w.heap.size w w' := ratioSign_any _ v q w h
theorem rb_frac (v : Value) (q : Rat) (w : World) (h : RB w v q) :
    Calls Tryz.prog 148 #[v] w fun e' w' => e' = .returned (.tuple #[.agg #[.int .i64 (if smallQ q = true then q.num else 0), .int .i64 (if smallQ q = true then (q.den : Int) else 0)], .bool (smallQ q)]) ∧ Below w.heap.size w w' := by
 refine (ratioFrac_any _ v q w h).mono ?_
 rintro e' w' ⟨rfl, hb⟩
 refine ⟨?_, hb⟩
 cases smallQ q <;> rfl
theorem RB.put2 {p : Nat → Prop} {w : World} {X : Nat} {s t : Int} {a b : Option Addr} {n c m d : Nat} {q : Rat} (h : RatioR p w (.agg #[.int .i64 s, .slice a n c, .int .i64 t, .slice b m d]) q) (hne : ∀ b, p b → b ≠ X) :
    RB ((((w.setCell ⟨X, 0, none⟩ (.int .i64 s)).setCell ⟨X, 1, none⟩ (.slice a n c)).setCell ⟨X, 2, none⟩ (.int .i64 t)).setCell ⟨X, 3, none⟩ (.slice b m d)) (.agg #[.int .i64 s, .slice a n c, .int .i64 t, .slice b m d]) q := by
 refine RatioR.mono (p := fun b => p b ∧ b < w.heap.size) (RatioR.kept (w := w) h.here (by simp) (fun b hb => ?_)) (fun b hb => by simpa using hb.2)
 have : b ≠ X := hne b hb.1
 rw [Go.Deep.blk_setCell_other _ _ _ _ (by simpa using this), Go.Deep.blk_setCell_other _ _ _ _ (by simpa using this), Go.Deep.blk_setCell_other _ _ _ _ (by simpa using this), Go.Deep.blk_setCell_other _ _ _ _ (by simpa using this)]
end Go.Proofs.YtdjinmieogpgcaaGreat
