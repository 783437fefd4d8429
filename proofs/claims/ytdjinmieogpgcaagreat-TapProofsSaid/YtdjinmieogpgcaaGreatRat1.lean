import Derived.Test.YtdjinmieogpgcaaGreatWide15
/- Quotients in memory: the four operations, comparisons, and how they are made. -/
namespace Go.Proofs.YtdjinmieogpgcaaGreat
open Go.RowKit
set_option linter.unusedVariables false
theorem Sz.d {K : Nat} {q : Rat} (h : Sz K q) : (((q.den : Int)).natAbs : Int) < pw K := by rw [natAbs_den]; exact h.2
set_option maxHeartbeats 1000000 in
set_option maxRecDepth 100000 in
theorem ratioDiv_any (p : Nat → Prop) (va vb : Value) (a b : Rat) (K M : Nat) (w : World) (h : RatioR p w va a) (h' : RatioR p w vb b) (hb0 : b ≠ 0) (ha : Sz K a) (hb : Sz M b) (hK : K + M ≤ 800000) :
    Calls Tryz.prog 141 #[va, vb] w fun e' w' => ∃ v', e' = .returned v' ∧ Below w.heap.size w w' ∧ RatioR (fun b => w.heap.size ≤ b) w' v' (a / b) := by
 have HA := Lib.hid h
 have HB := Lib.hid h'
 have HSA := Lib.hid ha
 have HSB := Lib.hid hb
 obtain ⟨sa, aa, na, ca, ta, ab, nb, cb, rfl, _, _⟩ := h
 obtain ⟨sb, ba, ma, da, tb, bb, mb, db, rfl, _, _⟩ := h'
 clear ha hb
 have HAN := Lib.hid (fun (w' : World) (hb : Below w.heap.size w w') => show WideR p w' (.agg #[.int .i64 sa, .slice aa na ca]) a.num by
  obtain ⟨_, _, _, _, _, _, _, _, e, h1, h2⟩ := HA.out.below hb
  simp only [Value.agg.injEq, Array.mk.injEq, List.cons.injEq, Value.slice.injEq, Value.int.injEq, and_true, true_and] at e
  obtain ⟨rfl, ⟨rfl, rfl, rfl⟩, rfl, rfl, rfl, rfl⟩ := e
  exact h1)
 have HAD := Lib.hid (fun (w' : World) (hb : Below w.heap.size w w') => show WideR p w' (.agg #[.int .i64 ta, .slice ab nb cb]) (a.den : Int) by
  obtain ⟨_, _, _, _, _, _, _, _, e, h1, h2⟩ := HA.out.below hb
  simp only [Value.agg.injEq, Array.mk.injEq, List.cons.injEq, Value.slice.injEq, Value.int.injEq, and_true, true_and] at e
  obtain ⟨rfl, ⟨rfl, rfl, rfl⟩, rfl, rfl, rfl, rfl⟩ := e
  exact h2)
 have HBN := Lib.hid (fun (w' : World) (hb : Below w.heap.size w w') => show WideR p w' (.agg #[.int .i64 sb, .slice ba ma da]) b.num by
  obtain ⟨_, _, _, _, _, _, _, _, e, h1, h2⟩ := HB.out.below hb
  simp only [Value.agg.injEq, Array.mk.injEq, List.cons.injEq, Value.slice.injEq, Value.int.injEq, and_true, true_and] at e
  obtain ⟨rfl, ⟨rfl, rfl, rfl⟩, rfl, rfl, rfl, rfl⟩ := e
  exact h1)
 have HBD := Lib.hid (fun (w' : World) (hb : Below w.heap.size w w') => show WideR p w' (.agg #[.int .i64 tb, .slice bb mb db]) (b.den : Int) by
  obtain ⟨_, _, _, _, _, _, _, _, e, h1, h2⟩ := HB.out.below hb
  simp only [Value.agg.injEq, Array.mk.injEq, List.cons.injEq, Value.slice.injEq, Value.int.injEq, and_true, true_and] at e
  obtain ⟨rfl, ⟨rfl, rfl, rfl⟩, rfl, rfl, rfl, rfl⟩ := e
  exact h2)
 clear HA HB
 go_enter Tryz.func141, Tryz.ntmps141
 go_wp2_with fail
 generalize hW : World.alloc _ _ = w6
 have hb6 : Below w.heap.size w w6 := by rw [← hW]; (first|exact bwg|go_size)
 have hz6 : w6.heap.size = w.heap.size + 1 + 1 + 1 := by rw [← hW]; simp
 have qa0 : w6.cell? ⟨w.heap.size, 0, none⟩ = some (.int .i64 sa) := by { rw [← hW]; clear hW; go_simp }
 have qa1 : w6.cell? ⟨w.heap.size, 1, none⟩ = some (.slice aa na ca) := by { rw [← hW]; clear hW; go_simp }
 have qa2 : w6.cell? ⟨w.heap.size, 2, none⟩ = some (.int .i64 ta) := by { rw [← hW]; clear hW; go_simp }
 have qa3 : w6.cell? ⟨w.heap.size, 3, none⟩ = some (.slice ab nb cb) := by { rw [← hW]; clear hW; go_simp }
 have qb0 : w6.cell? ⟨w.heap.size + 1, 0, none⟩ = some (.int .i64 sb) := by { rw [← hW]; clear hW; go_simp }
 have qb1 : w6.cell? ⟨w.heap.size + 1, 1, none⟩ = some (.slice ba ma da) := by { rw [← hW]; clear hW; go_simp }
 have qb2 : w6.cell? ⟨w.heap.size + 1, 2, none⟩ = some (.int .i64 tb) := by { rw [← hW]; clear hW; go_simp }
 have qb3 : w6.cell? ⟨w.heap.size + 1, 3, none⟩ = some (.slice bb mb db) := by { rw [← hW]; clear hW; go_simp }
 have z0 : w6.cell? ⟨w.heap.size + 1 + 1, 0, none⟩ = some (.int .i64 0) := by { rw [← hW]; clear hW; go_simp }
 have f0 : w6.frozen? ⟨w.heap.size + 1 + 1, 0, none⟩ = false := by { rw [← hW]; clear hW; go_simp }
 have z1 : w6.cell? ⟨w.heap.size + 1 + 1, 1, none⟩ = some (.slice none 0 0) := by { rw [← hW]; clear hW; go_simp }
 have f1 : w6.frozen? ⟨w.heap.size + 1 + 1, 1, none⟩ = false := by { rw [← hW]; clear hW; go_simp }
 have z2 : w6.cell? ⟨w.heap.size + 1 + 1, 2, none⟩ = some (.int .i64 0) := by { rw [← hW]; clear hW; go_simp }
 have f2 : w6.frozen? ⟨w.heap.size + 1 + 1, 2, none⟩ = false := by { rw [← hW]; clear hW; go_simp }
 have z3 : w6.cell? ⟨w.heap.size + 1 + 1, 3, none⟩ = some (.slice none 0 0) := by { rw [← hW]; clear hW; go_simp }
 have f3 : w6.frozen? ⟨w.heap.size + 1 + 1, 3, none⟩ = false := by { rw [← hW]; clear hW; go_simp }
 have l : w.heap.size + 1 + 1 < w6.heap.size := by omega
 have HB6 := Lib.hid hb6
 clear hW hb6
 refine wp_region_laterB (B := w.heap.size + 1 + 1) [0, 1, 2, 3, 5, 6, 7, 8] [4, 9, 10, 11] (by kernel_rfl) (by kernel_rfl) ?_; simp only [List.filterMap_cons, List.filterMap_nil, List.getElem?_cons_zero, List.getElem?_cons_succ]; repeat (show wpQuiet _ _ _ _ (_ :: _) _; go_big_quiet_step (fail))
 refine wpQuiet_nil ?_
 refine wpTail_cons ?_
 go_wp2_with fail
 refine (wideMul_any (fun _ => True) _ _ (a.num) ((b.den : Int)) K M w6.drew ((HAN.out _ HB6.out.drew).mono (fun _ _ => trivial)) ((HBD.out _ HB6.out.drew).mono (fun _ _ => trivial)) HSA.out.1 HSB.out.d (by omega)).mono ?_
 rintro e0 w7 ⟨v0, rfl, hb0, hw0⟩
 have HT0 := Lib.hid (hw0.here.mono (q := fun b => w.heap.size + 1 + 1 < b ∧ b < w7.heap.size) (fun b hb => by have h1 := hb.1; have h2 := hb.2; simp at h1; omega))
 have hbx : Below w6.heap.size w6 w7 := (Below.refl _ _).drew.trans hb0
 have hz7 := hbx.size
 have hy7 := hb0.size
 have z0_0 : w7.cell? ⟨w.heap.size + 1 + 1, 0, none⟩ = some (.int .i64 0) := bwc hbx; have z1_0 : w7.cell? ⟨w.heap.size + 1 + 1, 1, none⟩ = some (.slice none 0 0) := bwc hbx; have z2_0 : w7.cell? ⟨w.heap.size + 1 + 1, 2, none⟩ = some (.int .i64 0) := bwc hbx; have z3_0 : w7.cell? ⟨w.heap.size + 1 + 1, 3, none⟩ = some (.slice none 0 0) := bwc hbx; have f0_0 : w7.frozen? ⟨w.heap.size + 1 + 1, 0, none⟩ = false := bwf hbx; have f1_0 : w7.frozen? ⟨w.heap.size + 1 + 1, 1, none⟩ = false := bwf hbx; have f2_0 : w7.frozen? ⟨w.heap.size + 1 + 1, 2, none⟩ = false := bwf hbx; have f3_0 : w7.frozen? ⟨w.heap.size + 1 + 1, 3, none⟩ = false := bwf hbx; have l_0 : w.heap.size + 1 + 1 < w7.heap.size := by { omega }
 have HBB := Lib.hid hbx
 clear hbx hb0
 obtain ⟨r0, u0, i0, j0, rfl, _⟩ := hw0
 obtain ⟨s0, hs0⟩ : ∃ s, s = ((a.num) * ((b.den : Int))).sign := ⟨_, rfl⟩
 rw [← hs0] at HT0 ⊢
 clear hs0
 go_wp2_with fail
 refine tailL_mk (HBB.out.mono (by omega)) ?_
 refine wpTail_cons ?_
 go_wp2_with fail
 refine (wideMul_any (fun _ => True) _ _ ((a.den : Int)) (b.num) K M w7 ((HAD.out _ (HB6.out.trans (HBB.out.mono (by omega)))).mono (fun _ _ => trivial)) ((HBN.out _ (HB6.out.trans (HBB.out.mono (by omega)))).mono (fun _ _ => trivial)) HSA.out.d HSB.out.1 (by omega)).mono ?_
 rintro e1 w8 ⟨v1, rfl, hb1, hw1⟩
 have HT1 := Lib.hid (hw1.here.mono (q := fun b => w.heap.size + 1 + 1 < b ∧ b < w8.heap.size) (fun b hb => by have h1 := hb.1; have h2 := hb.2; omega))
 have hbx : Below w6.heap.size w6 w8 := HBB.out.trans (hb1.mono HBB.out.size)
 have hz8 := hbx.size
 have hy8 := hb1.size
 have z0_1 : w8.cell? ⟨w.heap.size + 1 + 1, 0, none⟩ = some (.int .i64 0) := bwc hbx; have z1_1 : w8.cell? ⟨w.heap.size + 1 + 1, 1, none⟩ = some (.slice none 0 0) := bwc hbx; have z2_1 : w8.cell? ⟨w.heap.size + 1 + 1, 2, none⟩ = some (.int .i64 0) := bwc hbx; have z3_1 : w8.cell? ⟨w.heap.size + 1 + 1, 3, none⟩ = some (.slice none 0 0) := bwc hbx; have f0_1 : w8.frozen? ⟨w.heap.size + 1 + 1, 0, none⟩ = false := bwf hbx; have f1_1 : w8.frozen? ⟨w.heap.size + 1 + 1, 1, none⟩ = false := bwf hbx; have f2_1 : w8.frozen? ⟨w.heap.size + 1 + 1, 2, none⟩ = false := bwf hbx; have f3_1 : w8.frozen? ⟨w.heap.size + 1 + 1, 3, none⟩ = false := bwf hbx; have l_1 : w.heap.size + 1 + 1 < w8.heap.size := by { omega }
 have HT0 := Lib.hid ((HT0.out.below hb1).mono (q := fun b => w.heap.size + 1 + 1 < b ∧ b < w8.heap.size) (fun b hb => by omega))
 have HBB := Lib.hid hbx
 clear hbx hb1
 obtain ⟨r1, u1, i1, j1, rfl, _⟩ := hw1
 obtain ⟨s1, hs1⟩ : ∃ s, s = (((a.den : Int)) * (b.num)).sign := ⟨_, rfl⟩
 rw [← hs1] at HT1 ⊢
 clear hs1
 go_wp2_with fail
 refine tailL_mk (HBB.out.mono (by omega)) ?_
 refine wpTail_cons ?_
 go_wp2_with fail
 refine (ratioMake_any (fun b => w.heap.size + 1 + 1 < b ∧ b < w8.heap.size) _ _ ((a.num) * ((b.den : Int))) (((a.den : Int)) * (b.num)) (K + M) w8 HT0.out HT1.out (fun b hb => hb.2) (den_ne a b hb0) (natAbs_mul_lt HSA.out.1 HSB.out.d) (natAbs_mul_lt HSA.out.d HSB.out.1) (by omega)).mono ?_
 rintro e2 w9 ⟨v2, rfl, hb2, hw2⟩
 have HTQ := Lib.hid (hw2.mono (p' := fun b => w.heap.size + 1 + 1 < b) (fun b hb => by rcases hb with hb | hb; exact hb.1; omega))
 have hbx : Below w6.heap.size w6 w9 := HBB.out.trans (hb2.mono HBB.out.size)
 have hz9 := hbx.size
 have hy9 := hb2.size
 have z0_2 : w9.cell? ⟨w.heap.size + 1 + 1, 0, none⟩ = some (.int .i64 0) := bwc hbx; have z1_2 : w9.cell? ⟨w.heap.size + 1 + 1, 1, none⟩ = some (.slice none 0 0) := bwc hbx; have z2_2 : w9.cell? ⟨w.heap.size + 1 + 1, 2, none⟩ = some (.int .i64 0) := bwc hbx; have z3_2 : w9.cell? ⟨w.heap.size + 1 + 1, 3, none⟩ = some (.slice none 0 0) := bwc hbx; have f0_2 : w9.frozen? ⟨w.heap.size + 1 + 1, 0, none⟩ = false := bwf hbx; have f1_2 : w9.frozen? ⟨w.heap.size + 1 + 1, 1, none⟩ = false := bwf hbx; have f2_2 : w9.frozen? ⟨w.heap.size + 1 + 1, 2, none⟩ = false := bwf hbx; have f3_2 : w9.frozen? ⟨w.heap.size + 1 + 1, 3, none⟩ = false := bwf hbx; have l_2 : w.heap.size + 1 + 1 < w9.heap.size := by { omega }
 have HT0 := Lib.hid ((HT0.out.below hb2).mono (q := fun b => w.heap.size + 1 + 1 < b ∧ b < w9.heap.size) (fun b hb => by omega))
 have HT1 := Lib.hid ((HT1.out.below hb2).mono (q := fun b => w.heap.size + 1 + 1 < b ∧ b < w9.heap.size) (fun b hb => by omega))
 have HBB := Lib.hid hbx
 clear hbx hb2
 obtain ⟨t1, b1, o1, k1, t2, b2, o2, k2, rfl, _, _⟩ := hw2
 go_wp2_with fail
 refine tailL_mk (HBB.out.mono (by omega)) ?_
 refine wpTail_cons ?_
 go_wp2_with fail
 refine tailL_mk (((((HBB.out.mono (show w.heap.size + 1 + 1 ≤ _ by omega)).setCell (by simp) _).setCell (by simp) _).setCell (by simp) _).setCell (by simp) _) ?_
 refine wpTail_nil ?_
 go_wp2
 refine bodyPost_ret (v := .agg #[.int .i64 t1, .slice b1 o1 k1, .int .i64 t2, .slice b2 o2 k2]) (by simp [results, Tryz.results141, go_sem, *]) rfl ⟨_, rfl, ?_, ?_⟩
 ·exact ((((HB6.out.trans (HBB.out.mono (by omega))).setCell (by simp; omega) _).setCell (by simp; omega) _).setCell (by simp; omega) _).setCell (by simp; omega) _
 ·rw [rdiv_eq a b hb0]
  refine RatioR.mono (p := fun b => w.heap.size + 1 + 1 < b) (RatioR.kept (w := w9) HTQ.out (by simp) (fun b hb => ?_)) (fun b hb => by omega)
  rw [Go.Deep.blk_setCell_other _ _ _ _ (by simp; omega), Go.Deep.blk_setCell_other _ _ _ _ (by simp; omega), Go.Deep.blk_setCell_other _ _ _ _ (by simp; omega), Go.Deep.blk_setCell_other _ _ _ _ (by simp; omega)]
set_option maxHeartbeats 1000000 in
set_option maxRecDepth 100000 in
theorem ratioAdd_any (p : Nat → Prop) (va vb : Value) (a b : Rat) (K M : Nat) (w : World) (h : RatioR p w va a) (h' : RatioR p w vb b) (ha : Sz K a) (hb : Sz M b) (hK : K + M + 1 ≤ 800000) :
    Calls Tryz.prog 117 #[va, vb] w fun e' w' => ∃ v', e' = .returned v' ∧ Below w.heap.size w w' ∧ RatioR (fun b => w.heap.size ≤ b) w' v' (a + b) := by
 have HA := Lib.hid h
 have HB := Lib.hid h'
 have HSA := Lib.hid ha
 have HSB := Lib.hid hb
 obtain ⟨sa, aa, na, ca, ta, ab, nb, cb, rfl, _, _⟩ := h
 obtain ⟨sb, ba, ma, da, tb, bb, mb, db, rfl, _, _⟩ := h'
 clear ha hb
 have HAN := Lib.hid (fun (w' : World) (hb : Below w.heap.size w w') => show WideR p w' (.agg #[.int .i64 sa, .slice aa na ca]) a.num by
  obtain ⟨_, _, _, _, _, _, _, _, e, h1, h2⟩ := HA.out.below hb
  simp only [Value.agg.injEq, Array.mk.injEq, List.cons.injEq, Value.slice.injEq, Value.int.injEq, and_true, true_and] at e
  obtain ⟨rfl, ⟨rfl, rfl, rfl⟩, rfl, rfl, rfl, rfl⟩ := e
  exact h1)
 have HAD := Lib.hid (fun (w' : World) (hb : Below w.heap.size w w') => show WideR p w' (.agg #[.int .i64 ta, .slice ab nb cb]) (a.den : Int) by
  obtain ⟨_, _, _, _, _, _, _, _, e, h1, h2⟩ := HA.out.below hb
  simp only [Value.agg.injEq, Array.mk.injEq, List.cons.injEq, Value.slice.injEq, Value.int.injEq, and_true, true_and] at e
  obtain ⟨rfl, ⟨rfl, rfl, rfl⟩, rfl, rfl, rfl, rfl⟩ := e
  exact h2)
 have HBN := Lib.hid (fun (w' : World) (hb : Below w.heap.size w w') => show WideR p w' (.agg #[.int .i64 sb, .slice ba ma da]) b.num by
  obtain ⟨_, _, _, _, _, _, _, _, e, h1, h2⟩ := HB.out.below hb
  simp only [Value.agg.injEq, Array.mk.injEq, List.cons.injEq, Value.slice.injEq, Value.int.injEq, and_true, true_and] at e
  obtain ⟨rfl, ⟨rfl, rfl, rfl⟩, rfl, rfl, rfl, rfl⟩ := e
  exact h1)
 have HBD := Lib.hid (fun (w' : World) (hb : Below w.heap.size w w') => show WideR p w' (.agg #[.int .i64 tb, .slice bb mb db]) (b.den : Int) by
  obtain ⟨_, _, _, _, _, _, _, _, e, h1, h2⟩ := HB.out.below hb
  simp only [Value.agg.injEq, Array.mk.injEq, List.cons.injEq, Value.slice.injEq, Value.int.injEq, and_true, true_and] at e
  obtain ⟨rfl, ⟨rfl, rfl, rfl⟩, rfl, rfl, rfl, rfl⟩ := e
  exact h2)
 clear HA HB
 go_enter Tryz.func117, Tryz.ntmps117
 go_wp2_with fail
 generalize hW : World.alloc _ _ = w6
 have hb6 : Below w.heap.size w w6 := by rw [← hW]; (first|exact bwg|go_size)
 have hz6 : w6.heap.size = w.heap.size + 1 + 1 + 1 := by rw [← hW]; simp
 have qa0 : w6.cell? ⟨w.heap.size, 0, none⟩ = some (.int .i64 sa) := by { rw [← hW]; clear hW; go_simp }
 have qa1 : w6.cell? ⟨w.heap.size, 1, none⟩ = some (.slice aa na ca) := by { rw [← hW]; clear hW; go_simp }
 have qa2 : w6.cell? ⟨w.heap.size, 2, none⟩ = some (.int .i64 ta) := by { rw [← hW]; clear hW; go_simp }
 have qa3 : w6.cell? ⟨w.heap.size, 3, none⟩ = some (.slice ab nb cb) := by { rw [← hW]; clear hW; go_simp }
 have qb0 : w6.cell? ⟨w.heap.size + 1, 0, none⟩ = some (.int .i64 sb) := by { rw [← hW]; clear hW; go_simp }
 have qb1 : w6.cell? ⟨w.heap.size + 1, 1, none⟩ = some (.slice ba ma da) := by { rw [← hW]; clear hW; go_simp }
 have qb2 : w6.cell? ⟨w.heap.size + 1, 2, none⟩ = some (.int .i64 tb) := by { rw [← hW]; clear hW; go_simp }
 have qb3 : w6.cell? ⟨w.heap.size + 1, 3, none⟩ = some (.slice bb mb db) := by { rw [← hW]; clear hW; go_simp }
 have z0 : w6.cell? ⟨w.heap.size + 1 + 1, 0, none⟩ = some (.int .i64 0) := by { rw [← hW]; clear hW; go_simp }
 have f0 : w6.frozen? ⟨w.heap.size + 1 + 1, 0, none⟩ = false := by { rw [← hW]; clear hW; go_simp }
 have z1 : w6.cell? ⟨w.heap.size + 1 + 1, 1, none⟩ = some (.slice none 0 0) := by { rw [← hW]; clear hW; go_simp }
 have f1 : w6.frozen? ⟨w.heap.size + 1 + 1, 1, none⟩ = false := by { rw [← hW]; clear hW; go_simp }
 have z2 : w6.cell? ⟨w.heap.size + 1 + 1, 2, none⟩ = some (.int .i64 0) := by { rw [← hW]; clear hW; go_simp }
 have f2 : w6.frozen? ⟨w.heap.size + 1 + 1, 2, none⟩ = false := by { rw [← hW]; clear hW; go_simp }
 have z3 : w6.cell? ⟨w.heap.size + 1 + 1, 3, none⟩ = some (.slice none 0 0) := by { rw [← hW]; clear hW; go_simp }
 have f3 : w6.frozen? ⟨w.heap.size + 1 + 1, 3, none⟩ = false := by { rw [← hW]; clear hW; go_simp }
 have l : w.heap.size + 1 + 1 < w6.heap.size := by omega
 have HB6 := Lib.hid hb6
 clear hW hb6
 refine wp_region_laterB (B := w.heap.size + 1 + 1) [0, 1, 2, 3, 5, 6, 7, 8, 11, 12, 13, 14] [4, 9, 10, 15, 16, 17] (by kernel_rfl) (by kernel_rfl) ?_; simp only [List.filterMap_cons, List.filterMap_nil, List.getElem?_cons_zero, List.getElem?_cons_succ]; repeat (show wpQuiet _ _ _ _ (_ :: _) _; go_big_quiet_step (fail))
 refine wpQuiet_nil ?_
 refine wpTail_cons ?_
 go_wp2_with fail
 refine (wideMul_any (fun _ => True) _ _ (a.num) ((b.den : Int)) K M w6.drew ((HAN.out _ HB6.out.drew).mono (fun _ _ => trivial)) ((HBD.out _ HB6.out.drew).mono (fun _ _ => trivial)) HSA.out.1 HSB.out.d (by omega)).mono ?_
 rintro e0 w7 ⟨v0, rfl, hb0, hw0⟩
 have HT0 := Lib.hid (hw0.here.mono (q := fun b => w.heap.size + 1 + 1 < b ∧ b < w7.heap.size) (fun b hb => by have h1 := hb.1; have h2 := hb.2; simp at h1; omega))
 have hbx : Below w6.heap.size w6 w7 := (Below.refl _ _).drew.trans hb0
 have hz7 := hbx.size
 have hy7 := hb0.size
 have z0_0 : w7.cell? ⟨w.heap.size + 1 + 1, 0, none⟩ = some (.int .i64 0) := bwc hbx; have z1_0 : w7.cell? ⟨w.heap.size + 1 + 1, 1, none⟩ = some (.slice none 0 0) := bwc hbx; have z2_0 : w7.cell? ⟨w.heap.size + 1 + 1, 2, none⟩ = some (.int .i64 0) := bwc hbx; have z3_0 : w7.cell? ⟨w.heap.size + 1 + 1, 3, none⟩ = some (.slice none 0 0) := bwc hbx; have f0_0 : w7.frozen? ⟨w.heap.size + 1 + 1, 0, none⟩ = false := bwf hbx; have f1_0 : w7.frozen? ⟨w.heap.size + 1 + 1, 1, none⟩ = false := bwf hbx; have f2_0 : w7.frozen? ⟨w.heap.size + 1 + 1, 2, none⟩ = false := bwf hbx; have f3_0 : w7.frozen? ⟨w.heap.size + 1 + 1, 3, none⟩ = false := bwf hbx; have l_0 : w.heap.size + 1 + 1 < w7.heap.size := by { omega }
 have HBB := Lib.hid hbx
 clear hbx hb0
 obtain ⟨r0, u0, i0, j0, rfl, _⟩ := hw0
 obtain ⟨s0, hs0⟩ : ∃ s, s = ((a.num) * ((b.den : Int))).sign := ⟨_, rfl⟩
 rw [← hs0] at HT0 ⊢
 clear hs0
 go_wp2_with fail
 refine tailL_mk (HBB.out.mono (by omega)) ?_
 refine wpTail_cons ?_
 go_wp2_with fail
 refine (wideMul_any (fun _ => True) _ _ (b.num) ((a.den : Int)) M K w7 ((HBN.out _ (HB6.out.trans (HBB.out.mono (by omega)))).mono (fun _ _ => trivial)) ((HAD.out _ (HB6.out.trans (HBB.out.mono (by omega)))).mono (fun _ _ => trivial)) HSB.out.1 HSA.out.d (by omega)).mono ?_
 rintro e1 w8 ⟨v1, rfl, hb1, hw1⟩
 have HT1 := Lib.hid (hw1.here.mono (q := fun b => w.heap.size + 1 + 1 < b ∧ b < w8.heap.size) (fun b hb => by have h1 := hb.1; have h2 := hb.2; omega))
 have hbx : Below w6.heap.size w6 w8 := HBB.out.trans (hb1.mono HBB.out.size)
 have hz8 := hbx.size
 have hy8 := hb1.size
 have z0_1 : w8.cell? ⟨w.heap.size + 1 + 1, 0, none⟩ = some (.int .i64 0) := bwc hbx; have z1_1 : w8.cell? ⟨w.heap.size + 1 + 1, 1, none⟩ = some (.slice none 0 0) := bwc hbx; have z2_1 : w8.cell? ⟨w.heap.size + 1 + 1, 2, none⟩ = some (.int .i64 0) := bwc hbx; have z3_1 : w8.cell? ⟨w.heap.size + 1 + 1, 3, none⟩ = some (.slice none 0 0) := bwc hbx; have f0_1 : w8.frozen? ⟨w.heap.size + 1 + 1, 0, none⟩ = false := bwf hbx; have f1_1 : w8.frozen? ⟨w.heap.size + 1 + 1, 1, none⟩ = false := bwf hbx; have f2_1 : w8.frozen? ⟨w.heap.size + 1 + 1, 2, none⟩ = false := bwf hbx; have f3_1 : w8.frozen? ⟨w.heap.size + 1 + 1, 3, none⟩ = false := bwf hbx; have l_1 : w.heap.size + 1 + 1 < w8.heap.size := by { omega }
 have HT0 := Lib.hid ((HT0.out.below hb1).mono (q := fun b => w.heap.size + 1 + 1 < b ∧ b < w8.heap.size) (fun b hb => by omega))
 have HBB := Lib.hid hbx
 clear hbx hb1
 obtain ⟨r1, u1, i1, j1, rfl, _⟩ := hw1
 obtain ⟨s1, hs1⟩ : ∃ s, s = ((b.num) * ((a.den : Int))).sign := ⟨_, rfl⟩
 rw [← hs1] at HT1 ⊢
 clear hs1
 go_wp2_with fail
 refine tailL_mk (HBB.out.mono (by omega)) ?_
 refine wpTail_cons ?_
 go_wp2_with fail
 refine (wideAdd_any (fun b => w.heap.size + 1 + 1 < b ∧ b < w8.heap.size) _ _ ((a.num) * ((b.den : Int))) ((b.num) * ((a.den : Int))) (K + M) w8 HT0.out HT1.out (fun b hb => hb.2) (natAbs_mul_lt HSA.out.1 HSB.out.d) (by rw [Nat.add_comm]; exact (natAbs_mul_lt HSB.out.1 HSA.out.d)) (by omega)).mono ?_
 rintro e2 w9 ⟨v2, rfl, hb2, hw2⟩
 have HT2 := Lib.hid (hw2.here.mono (q := fun b => w.heap.size + 1 + 1 < b ∧ b < w9.heap.size) (fun b hb => by obtain ⟨h1, h2⟩ := hb; rcases h1 with h1 | h1 <;> omega))
 have hbx : Below w6.heap.size w6 w9 := HBB.out.trans (hb2.mono HBB.out.size)
 have hz9 := hbx.size
 have hy9 := hb2.size
 have z0_2 : w9.cell? ⟨w.heap.size + 1 + 1, 0, none⟩ = some (.int .i64 0) := bwc hbx; have z1_2 : w9.cell? ⟨w.heap.size + 1 + 1, 1, none⟩ = some (.slice none 0 0) := bwc hbx; have z2_2 : w9.cell? ⟨w.heap.size + 1 + 1, 2, none⟩ = some (.int .i64 0) := bwc hbx; have z3_2 : w9.cell? ⟨w.heap.size + 1 + 1, 3, none⟩ = some (.slice none 0 0) := bwc hbx; have f0_2 : w9.frozen? ⟨w.heap.size + 1 + 1, 0, none⟩ = false := bwf hbx; have f1_2 : w9.frozen? ⟨w.heap.size + 1 + 1, 1, none⟩ = false := bwf hbx; have f2_2 : w9.frozen? ⟨w.heap.size + 1 + 1, 2, none⟩ = false := bwf hbx; have f3_2 : w9.frozen? ⟨w.heap.size + 1 + 1, 3, none⟩ = false := bwf hbx; have l_2 : w.heap.size + 1 + 1 < w9.heap.size := by { omega }
 have HT0 := Lib.hid ((HT0.out.below hb2).mono (q := fun b => w.heap.size + 1 + 1 < b ∧ b < w9.heap.size) (fun b hb => by omega))
 have HT1 := Lib.hid ((HT1.out.below hb2).mono (q := fun b => w.heap.size + 1 + 1 < b ∧ b < w9.heap.size) (fun b hb => by omega))
 have HBB := Lib.hid hbx
 clear hbx hb2
 obtain ⟨r2, u2, i2, j2, rfl, _⟩ := hw2
 obtain ⟨s2, hs2⟩ : ∃ s, s = ((a.num) * ((b.den : Int)) + (b.num) * ((a.den : Int))).sign := ⟨_, rfl⟩
 rw [← hs2] at HT2 ⊢
 clear hs2
 go_wp2_with fail
 refine tailL_mk (HBB.out.mono (by omega)) ?_
 refine wpTail_cons ?_
 go_wp2_with fail
 refine (wideMul_any (fun _ => True) _ _ ((a.den : Int)) ((b.den : Int)) K M w9 ((HAD.out _ (HB6.out.trans (HBB.out.mono (by omega)))).mono (fun _ _ => trivial)) ((HBD.out _ (HB6.out.trans (HBB.out.mono (by omega)))).mono (fun _ _ => trivial)) HSA.out.d HSB.out.d (by omega)).mono ?_
 rintro e3 w10 ⟨v3, rfl, hb3, hw3⟩
 have HT3 := Lib.hid (hw3.here.mono (q := fun b => w.heap.size + 1 + 1 < b ∧ b < w10.heap.size) (fun b hb => by have h1 := hb.1; have h2 := hb.2; omega))
 have hbx : Below w6.heap.size w6 w10 := HBB.out.trans (hb3.mono HBB.out.size)
 have hz10 := hbx.size
 have hy10 := hb3.size
 have z0_3 : w10.cell? ⟨w.heap.size + 1 + 1, 0, none⟩ = some (.int .i64 0) := bwc hbx; have z1_3 : w10.cell? ⟨w.heap.size + 1 + 1, 1, none⟩ = some (.slice none 0 0) := bwc hbx; have z2_3 : w10.cell? ⟨w.heap.size + 1 + 1, 2, none⟩ = some (.int .i64 0) := bwc hbx; have z3_3 : w10.cell? ⟨w.heap.size + 1 + 1, 3, none⟩ = some (.slice none 0 0) := bwc hbx; have f0_3 : w10.frozen? ⟨w.heap.size + 1 + 1, 0, none⟩ = false := bwf hbx; have f1_3 : w10.frozen? ⟨w.heap.size + 1 + 1, 1, none⟩ = false := bwf hbx; have f2_3 : w10.frozen? ⟨w.heap.size + 1 + 1, 2, none⟩ = false := bwf hbx; have f3_3 : w10.frozen? ⟨w.heap.size + 1 + 1, 3, none⟩ = false := bwf hbx; have l_3 : w.heap.size + 1 + 1 < w10.heap.size := by { omega }
 have HT0 := Lib.hid ((HT0.out.below hb3).mono (q := fun b => w.heap.size + 1 + 1 < b ∧ b < w10.heap.size) (fun b hb => by omega))
 have HT1 := Lib.hid ((HT1.out.below hb3).mono (q := fun b => w.heap.size + 1 + 1 < b ∧ b < w10.heap.size) (fun b hb => by omega))
 have HT2 := Lib.hid ((HT2.out.below hb3).mono (q := fun b => w.heap.size + 1 + 1 < b ∧ b < w10.heap.size) (fun b hb => by omega))
 have HBB := Lib.hid hbx
 clear hbx hb3
 obtain ⟨r3, u3, i3, j3, rfl, _⟩ := hw3
 obtain ⟨s3, hs3⟩ : ∃ s, s = (((a.den : Int)) * ((b.den : Int))).sign := ⟨_, rfl⟩
 rw [← hs3] at HT3 ⊢
 clear hs3
 go_wp2_with fail
 refine tailL_mk (HBB.out.mono (by omega)) ?_
 refine wpTail_cons ?_
 go_wp2_with fail
 refine (ratioMake_any (fun b => w.heap.size + 1 + 1 < b ∧ b < w10.heap.size) _ _ ((a.num) * ((b.den : Int)) + (b.num) * ((a.den : Int))) (((a.den : Int)) * ((b.den : Int))) (K + M + 1) w10 HT2.out HT3.out (fun b hb => hb.2) (Int.ne_of_gt (Int.mul_pos (den_pos a) (den_pos b))) (natAbs_add_lt (natAbs_mul_lt HSA.out.1 HSB.out.d) (by rw [Nat.add_comm]; exact (natAbs_mul_lt HSB.out.1 HSA.out.d))) (Int.lt_of_lt_of_le (natAbs_mul_lt HSA.out.d HSB.out.d) (pw_mono (by omega))) (by omega)).mono ?_
 rintro e4 w11 ⟨v4, rfl, hb4, hw4⟩
 have HTQ := Lib.hid (hw4.mono (p' := fun b => w.heap.size + 1 + 1 < b) (fun b hb => by rcases hb with hb | hb; exact hb.1; omega))
 have hbx : Below w6.heap.size w6 w11 := HBB.out.trans (hb4.mono HBB.out.size)
 have hz11 := hbx.size
 have hy11 := hb4.size
 have z0_4 : w11.cell? ⟨w.heap.size + 1 + 1, 0, none⟩ = some (.int .i64 0) := bwc hbx; have z1_4 : w11.cell? ⟨w.heap.size + 1 + 1, 1, none⟩ = some (.slice none 0 0) := bwc hbx; have z2_4 : w11.cell? ⟨w.heap.size + 1 + 1, 2, none⟩ = some (.int .i64 0) := bwc hbx; have z3_4 : w11.cell? ⟨w.heap.size + 1 + 1, 3, none⟩ = some (.slice none 0 0) := bwc hbx; have f0_4 : w11.frozen? ⟨w.heap.size + 1 + 1, 0, none⟩ = false := bwf hbx; have f1_4 : w11.frozen? ⟨w.heap.size + 1 + 1, 1, none⟩ = false := bwf hbx; have f2_4 : w11.frozen? ⟨w.heap.size + 1 + 1, 2, none⟩ = false := bwf hbx; have f3_4 : w11.frozen? ⟨w.heap.size + 1 + 1, 3, none⟩ = false := bwf hbx; have l_4 : w.heap.size + 1 + 1 < w11.heap.size := by { omega }
 have HT0 := Lib.hid ((HT0.out.below hb4).mono (q := fun b => w.heap.size + 1 + 1 < b ∧ b < w11.heap.size) (fun b hb => by omega))
 have HT1 := Lib.hid ((HT1.out.below hb4).mono (q := fun b => w.heap.size + 1 + 1 < b ∧ b < w11.heap.size) (fun b hb => by omega))
 have HT2 := Lib.hid ((HT2.out.below hb4).mono (q := fun b => w.heap.size + 1 + 1 < b ∧ b < w11.heap.size) (fun b hb => by omega))
 have HT3 := Lib.hid ((HT3.out.below hb4).mono (q := fun b => w.heap.size + 1 + 1 < b ∧ b < w11.heap.size) (fun b hb => by omega))
 have HBB := Lib.hid hbx
 clear hbx hb4
 obtain ⟨t1, b1, o1, k1, t2, b2, o2, k2, rfl, _, _⟩ := hw4
 go_wp2_with fail
 refine tailL_mk (HBB.out.mono (by omega)) ?_
 refine wpTail_cons ?_
 go_wp2_with fail
 refine tailL_mk (((((HBB.out.mono (show w.heap.size + 1 + 1 ≤ _ by omega)).setCell (by simp) _).setCell (by simp) _).setCell (by simp) _).setCell (by simp) _) ?_
 refine wpTail_nil ?_
 go_wp2
 refine bodyPost_ret (v := .agg #[.int .i64 t1, .slice b1 o1 k1, .int .i64 t2, .slice b2 o2 k2]) (by simp [results, Tryz.results117, go_sem, *]) rfl ⟨_, rfl, ?_, ?_⟩
 ·exact ((((HB6.out.trans (HBB.out.mono (by omega))).setCell (by simp; omega) _).setCell (by simp; omega) _).setCell (by simp; omega) _).setCell (by simp; omega) _
 ·rw [radd_eq]
  refine RatioR.mono (p := fun b => w.heap.size + 1 + 1 < b) (RatioR.kept (w := w11) HTQ.out (by simp) (fun b hb => ?_)) (fun b hb => by omega)
  rw [Go.Deep.blk_setCell_other _ _ _ _ (by simp; omega), Go.Deep.blk_setCell_other _ _ _ _ (by simp; omega), Go.Deep.blk_setCell_other _ _ _ _ (by simp; omega), Go.Deep.blk_setCell_other _ _ _ _ (by simp; omega)]
end Go.Proofs.YtdjinmieogpgcaaGreat
