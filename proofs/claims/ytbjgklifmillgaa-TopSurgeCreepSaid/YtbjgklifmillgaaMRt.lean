import Derived.Test.YtbjgklifmillgaaWide15
/- Quotients in memory: the four operations, comparisons, and how they are made. -/
namespace Go.Proofs.Ytbjgklifmillgaa
open Go.RowKit
set_option linter.unusedVariables false

theorem Sz.d {K : Nat} {q : Rat} (h : Sz K q) : (((q.den : Int)).natAbs : Int) < pw K := by rw [natAbs_den]; exact h.2
theorem sign_den (q : Rat) : ((q.den : Int)).sign = 1 := Int.sign_eq_one_of_pos (den_pos q)

set_option maxHeartbeats 1000000 in
set_option maxRecDepth 100000 in
theorem ratioCmp_any (p : Nat → Prop) (va vb : Value) (a b : Rat) (K M : Nat) (w : World) (h : RatioR p w va a) (h' : RatioR p w vb b) (ha : Sz K a) (hb : Sz M b) (hK : K + M ≤ 800000) :
    Calls Try.prog 13 #[va, vb] w fun e' w' => e' = .returned (.int .i64 (a.num * b.den - b.num * a.den).sign) ∧ Below w.heap.size w w' := by
  have HA := Lib.hid h
  have HB := Lib.hid h'
  have HSA := Lib.hid ha
  have HSB := Lib.hid hb
  obtain ⟨sa, aa, na, ca, ta, ab, nb, cb, rfl, _, _⟩ := h
  obtain ⟨sb, ba, ma, da, tb, bb, mb, db, rfl, _, _⟩ := h'
  clear ha hb
  have HAN := Lib.hid (fun (w' : World) (hb : Below w.heap.size w w') => show WideR p w' (.agg #[.int .i64 sa, .slice aa na ca]) a.num by
    obtain ⟨_, _, _, _, _, _, _, _, e, h1, h2⟩ := HA.out.below hb
    simp only [Value.agg.injEq, Array.mk.injEq, List.cons.injEq, Value.slice.injEq, Value.int.injEq, and_true, true_and] at e
    obtain ⟨rfl, ⟨rfl, rfl, rfl⟩, rfl, rfl, rfl, rfl⟩ := e
    exact h1)
  have HAD := Lib.hid (fun (w' : World) (hb : Below w.heap.size w w') => show WideR p w' (.agg #[.int .i64 ta, .slice ab nb cb]) (a.den : Int) by
    obtain ⟨_, _, _, _, _, _, _, _, e, h1, h2⟩ := HA.out.below hb
    simp only [Value.agg.injEq, Array.mk.injEq, List.cons.injEq, Value.slice.injEq, Value.int.injEq, and_true, true_and] at e
    obtain ⟨rfl, ⟨rfl, rfl, rfl⟩, rfl, rfl, rfl, rfl⟩ := e
    exact h2)
  have HBN := Lib.hid (fun (w' : World) (hb : Below w.heap.size w w') => show WideR p w' (.agg #[.int .i64 sb, .slice ba ma da]) b.num by
    obtain ⟨_, _, _, _, _, _, _, _, e, h1, h2⟩ := HB.out.below hb
    simp only [Value.agg.injEq, Array.mk.injEq, List.cons.injEq, Value.slice.injEq, Value.int.injEq, and_true, true_and] at e
    obtain ⟨rfl, ⟨rfl, rfl, rfl⟩, rfl, rfl, rfl, rfl⟩ := e
    exact h1)
  have HBD := Lib.hid (fun (w' : World) (hb : Below w.heap.size w w') => show WideR p w' (.agg #[.int .i64 tb, .slice bb mb db]) (b.den : Int) by
    obtain ⟨_, _, _, _, _, _, _, _, e, h1, h2⟩ := HB.out.below hb
    simp only [Value.agg.injEq, Array.mk.injEq, List.cons.injEq, Value.slice.injEq, Value.int.injEq, and_true, true_and] at e
    obtain ⟨rfl, ⟨rfl, rfl, rfl⟩, rfl, rfl, rfl, rfl⟩ := e
    exact h2)
  clear HA HB
  go_enter Try.func13, Try.ntmps13
  go_wp2_with fail
  generalize hW : World.alloc _ _ = w6
  have hb6 : Below w.heap.size w w6 := by rw [← hW]; (repeat' (first | (with_reducible exact Below.refl _ _) | (with_reducible assumption) | (with_reducible refine Below.drewN ?_ _) | (with_reducible refine Below.alloc ?_ ?_ _) | (with_reducible refine Below.drew ?_) | (with_reducible refine Below.setCell ?_ ?_ _) | (with_reducible refine Below.step (by assumption) ?_ ?_) | (with_reducible exact And.left (by assumption)) | go_size))
  have hz6 : w6.heap.size = w.heap.size + 1 + 1 := by rw [← hW]; simp
  have qa0 : w6.cell? ⟨w.heap.size, 0, none⟩ = some (.int .i64 sa) := by { rw [← hW]; clear hW; go_simp }
  have qa1 : w6.cell? ⟨w.heap.size, 1, none⟩ = some (.slice aa na ca) := by { rw [← hW]; clear hW; go_simp }
  have qa2 : w6.cell? ⟨w.heap.size, 2, none⟩ = some (.int .i64 ta) := by { rw [← hW]; clear hW; go_simp }
  have qa3 : w6.cell? ⟨w.heap.size, 3, none⟩ = some (.slice ab nb cb) := by { rw [← hW]; clear hW; go_simp }
  have qb0 : w6.cell? ⟨w.heap.size + 1, 0, none⟩ = some (.int .i64 sb) := by { rw [← hW]; clear hW; go_simp }
  have qb1 : w6.cell? ⟨w.heap.size + 1, 1, none⟩ = some (.slice ba ma da) := by { rw [← hW]; clear hW; go_simp }
  have qb2 : w6.cell? ⟨w.heap.size + 1, 2, none⟩ = some (.int .i64 tb) := by { rw [← hW]; clear hW; go_simp }
  have qb3 : w6.cell? ⟨w.heap.size + 1, 3, none⟩ = some (.slice bb mb db) := by { rw [← hW]; clear hW; go_simp }
  have HB6 := Lib.hid hb6
  clear hW hb6
  refine wp_region_laterT (B := w.heap.size + 1 + 1) (.head 0 (.head 1 (.head 2 (.head 3 (.head 5 (.head 6 (.head 7 (.head 8 (.one 4 (.one 9 (.one 10 (.head 11 .done)))))))))))) (by kernel_rfl) (by kernel_rfl) ?_
  repeat (refine tree_head rfl ?_; (show wpQuiet _ _ _ _ (_ :: _) _; go_big_quiet_step (fail)); refine wpQuiet_nil ?_)
  refine tree_one rfl ?_; go_wp2_with fail
  refine (wideMul_any (fun _ => True) _ _ (a.num) ((b.den : Int)) K M w6.drew ((HAN.out _ HB6.out.drew).mono (fun _ _ => trivial)) ((HBD.out _ HB6.out.drew).mono (fun _ _ => trivial)) HSA.out.1 HSB.out.d (by omega)).mono ?_
  rintro e0 w7 ⟨v0, rfl, hb0, hw0⟩
  have HT0 := Lib.hid (hw0.here.mono (q := fun b => w.heap.size + 1 < b ∧ b < w7.heap.size) (fun b hb => by have h1 := hb.1; have h2 := hb.2; simp at h1; omega))
  have hbx : Below w6.heap.size w6 w7 := (Below.refl _ _).drew.trans hb0
  have hz7 := hbx.size
  have hy7 := hb0.size
  have HBB := Lib.hid hbx
  clear hbx hb0
  obtain ⟨r0, u0, i0, j0, rfl, _⟩ := hw0
  obtain ⟨s0, hs0⟩ : ∃ s, s = ((a.num) * ((b.den : Int))).sign := ⟨_, rfl⟩
  rw [← hs0] at HT0 ⊢
  clear hs0
  go_wp2_with fail
  refine tailL_mk (HBB.out.mono (by omega)) ?_
  refine tree_one rfl ?_; go_wp2_with fail
  refine (wideMul_any (fun _ => True) _ _ (b.num) ((a.den : Int)) M K w7 ((HBN.out _ (HB6.out.trans (HBB.out.mono (by omega)))).mono (fun _ _ => trivial)) ((HAD.out _ (HB6.out.trans (HBB.out.mono (by omega)))).mono (fun _ _ => trivial)) HSB.out.1 HSA.out.d (by omega)).mono ?_
  rintro e1 w8 ⟨v1, rfl, hb1, hw1⟩
  have HT1 := Lib.hid (hw1.here.mono (q := fun b => w.heap.size + 1 < b ∧ b < w8.heap.size) (fun b hb => by have h1 := hb.1; have h2 := hb.2; omega))
  have hbx : Below w6.heap.size w6 w8 := HBB.out.trans (hb1.mono HBB.out.size)
  have hz8 := hbx.size
  have hy8 := hb1.size
  have HT0 := Lib.hid ((HT0.out.below hb1).mono (q := fun b => w.heap.size + 1 < b ∧ b < w8.heap.size) (fun b hb => by omega))
  have HBB := Lib.hid hbx
  clear hbx hb1
  obtain ⟨r1, u1, i1, j1, rfl, _⟩ := hw1
  obtain ⟨s1, hs1⟩ : ∃ s, s = ((b.num) * ((a.den : Int))).sign := ⟨_, rfl⟩
  rw [← hs1] at HT1 ⊢
  clear hs1
  go_wp2_with fail
  refine tailL_mk (HBB.out.mono (by omega)) ?_
  refine tree_one rfl ?_; go_wp2_with fail
  refine (wideCmp_any (fun b => w.heap.size + 1 < b ∧ b < w8.heap.size) _ _ ((a.num) * ((b.den : Int))) ((b.num) * ((a.den : Int))) (K + M) w8 (HT0.out.mono (fun b hb => by omega)) (HT1.out.mono (fun b hb => by omega)) (fun b hb => hb.2) (natAbs_mul_lt HSA.out.1 HSB.out.d) (by rw [Nat.add_comm]; exact (natAbs_mul_lt HSB.out.1 HSA.out.d)) (by omega)).mono ?_
  rintro e2 w9 ⟨rfl, hb2⟩
  have hbx : Below w6.heap.size w6 w9 := HBB.out.trans (hb2.mono HBB.out.size)
  have hz9 := hbx.size
  have hy9 := hb2.size
  have HT0 := Lib.hid ((HT0.out.below hb2).mono (q := fun b => w.heap.size + 1 < b ∧ b < w9.heap.size) (fun b hb => by omega))
  have HT1 := Lib.hid ((HT1.out.below hb2).mono (q := fun b => w.heap.size + 1 < b ∧ b < w9.heap.size) (fun b hb => by omega))
  have HBB := Lib.hid hbx
  clear hbx hb2
  obtain ⟨cs, hcs⟩ : ∃ s, s = ((a.num) * ((b.den : Int)) - (b.num) * ((a.den : Int))).sign := ⟨_, rfl⟩
  rw [← hcs]
  have HCS := Lib.hid hcs
  clear hcs
  go_wp2_with fail
  refine tailL_mk (HBB.out.mono (by omega)) ?_
  repeat (refine tree_head rfl ?_; (show wpQuiet _ _ _ _ (_ :: _) _; go_big_quiet_step (fail)); refine wpQuiet_nil ?_)
  refine tree_done ?_
  go_wp2
  go_ret
  exact ⟨ret_int HCS.out, HB6.out.trans (HBB.out.mono (by omega))⟩

end Go.Proofs.Ytbjgklifmillgaa

/- Quotients in memory: opposite, difference, sign, and how they are made of ints. -/
namespace Go.Proofs.Ytbjgklifmillgaa
open Go.RowKit
set_option linter.unusedVariables false

/-- The two numbers of a ratio that is written out. -/
theorem RatioR.parts {p : Nat → Prop} {w : World} {s t : Int} {a a2 : Option Addr} {n c n2 c2 : Nat} {q : Rat} (h : RatioR p w (.agg #[.int .i64 s, .slice a n c, .int .i64 t, .slice a2 n2 c2]) q) : WideR p w (.agg #[.int .i64 s, .slice a n c]) q.num ∧ WideR p w (.agg #[.int .i64 t, .slice a2 n2 c2]) (q.den : Int) := by
  obtain ⟨_, _, _, _, _, _, _, _, e, h1, h2⟩ := h
  simp only [Value.agg.injEq, Array.mk.injEq, List.cons.injEq, Value.slice.injEq, Value.int.injEq, and_true, true_and] at e
  obtain ⟨rfl, ⟨rfl, rfl, rfl⟩, rfl, rfl, rfl, rfl⟩ := e
  exact ⟨h1, h2⟩
theorem RatioR.of_parts {p : Nat → Prop} {w : World} {s t : Int} {a a2 : Option Addr} {n c n2 c2 : Nat} {q : Rat} (h1 : WideR p w (.agg #[.int .i64 s, .slice a n c]) q.num) (h2 : WideR p w (.agg #[.int .i64 t, .slice a2 n2 c2]) (q.den : Int)) : RatioR p w (.agg #[.int .i64 s, .slice a n c, .int .i64 t, .slice a2 n2 c2]) q := ⟨s, a, n, c, t, a2, n2, c2, rfl, h1, h2⟩
theorem int_digits {n : Int} (h0 : -9223372036854775807 ≤ n) (h1 : n ≤ 9223372036854775807) : (n.natAbs : Int) < pw 3 := by simp only [pw]; omega
set_option maxHeartbeats 400000 in
set_option maxRecDepth 100000 in
theorem ratioOf_any (x y : Int) (w : World) (hy : y ≠ 0) (h0 : -9223372036854775807 ≤ x) (h1 : x ≤ 9223372036854775807) (h2 : -9223372036854775807 ≤ y) (h3 : y ≤ 9223372036854775807) :
    Calls Try.prog 14 #[.int .i64 x, .int .i64 y] w fun e' w' => ∃ v', e' = .returned v' ∧ Below w.heap.size w w' ∧ RatioR (fun b => w.heap.size ≤ b) w' v' (Rat.divInt x y) := by
  have HY := Lib.hid hy
  clear hy
  go_enter Try.func14, Try.ntmps14
  go_wp2_with fail
  generalize hW : World.alloc _ _ = w6
  have hb6 : Below w.heap.size w w6 := by rw [← hW]; (repeat' (first | (with_reducible exact Below.refl _ _) | (with_reducible assumption) | (with_reducible refine Below.drewN ?_ _) | (with_reducible refine Below.alloc ?_ ?_ _) | (with_reducible refine Below.drew ?_) | (with_reducible refine Below.setCell ?_ ?_ _) | (with_reducible refine Below.step (by assumption) ?_ ?_) | (with_reducible exact And.left (by assumption)) | go_size))
  have hz6 : w6.heap.size = w.heap.size + 1 := by rw [← hW]; simp
  have z0 : w6.cell? ⟨w.heap.size, 0, none⟩ = some (.int .i64 0) := by { rw [← hW]; clear hW; go_simp }
  have z1 : w6.cell? ⟨w.heap.size, 1, none⟩ = some (.slice none 0 0) := by { rw [← hW]; clear hW; go_simp }
  have z2 : w6.cell? ⟨w.heap.size, 2, none⟩ = some (.int .i64 0) := by { rw [← hW]; clear hW; go_simp }
  have z3 : w6.cell? ⟨w.heap.size, 3, none⟩ = some (.slice none 0 0) := by { rw [← hW]; clear hW; go_simp }
  have f0 : w6.frozen? ⟨w.heap.size, 0, none⟩ = false := by { rw [← hW]; clear hW; go_simp }
  have f1 : w6.frozen? ⟨w.heap.size, 1, none⟩ = false := by { rw [← hW]; clear hW; go_simp }
  have f2 : w6.frozen? ⟨w.heap.size, 2, none⟩ = false := by { rw [← hW]; clear hW; go_simp }
  have f3 : w6.frozen? ⟨w.heap.size, 3, none⟩ = false := by { rw [← hW]; clear hW; go_simp }
  have l : w.heap.size < w6.heap.size := by rw [← hW]; simp
  have HB6 := Lib.hid hb6
  clear hW hb6
  refine (wideOfInt_any x w6 h0 h1).mono ?_
  rintro e7 w7 ⟨v7, rfl, hb7, hW7⟩
  have hz7 := hb7.size
  have z0a : w7.cell? ⟨w.heap.size, 0, none⟩ = some (.int .i64 0) := by { rw [cellB hb7 _ _ (by first | (simp; done) | (simp; omega) | omega)]; all_goals (first | assumption | go_simp) }; have z1a : w7.cell? ⟨w.heap.size, 1, none⟩ = some (.slice none 0 0) := by { rw [cellB hb7 _ _ (by first | (simp; done) | (simp; omega) | omega)]; all_goals (first | assumption | go_simp) }; have z2a : w7.cell? ⟨w.heap.size, 2, none⟩ = some (.int .i64 0) := by { rw [cellB hb7 _ _ (by first | (simp; done) | (simp; omega) | omega)]; all_goals (first | assumption | go_simp) }; have z3a : w7.cell? ⟨w.heap.size, 3, none⟩ = some (.slice none 0 0) := by { rw [cellB hb7 _ _ (by first | (simp; done) | (simp; omega) | omega)]; all_goals (first | assumption | go_simp) }; have f0a : w7.frozen? ⟨w.heap.size, 0, none⟩ = false := by { rw [frozenB hb7 _ _ (by first | (simp; done) | (simp; omega) | omega)]; all_goals (first | assumption | go_simp) }; have f1a : w7.frozen? ⟨w.heap.size, 1, none⟩ = false := by { rw [frozenB hb7 _ _ (by first | (simp; done) | (simp; omega) | omega)]; all_goals (first | assumption | go_simp) }; have f2a : w7.frozen? ⟨w.heap.size, 2, none⟩ = false := by { rw [frozenB hb7 _ _ (by first | (simp; done) | (simp; omega) | omega)]; all_goals (first | assumption | go_simp) }; have f3a : w7.frozen? ⟨w.heap.size, 3, none⟩ = false := by { rw [frozenB hb7 _ _ (by first | (simp; done) | (simp; omega) | omega)]; all_goals (first | assumption | go_simp) }; have la : w.heap.size < w7.heap.size := by { omega }
  have HB7 := Lib.hid hb7
  have HW7 := Lib.hid hW7
  obtain ⟨a7, n7, c7, l7, rfl, _⟩ := hW7
  clear hb7 z0 z1 z2 z3 f0 f1 f2 f3 l
  obtain ⟨s7, hs7⟩ : ∃ s, s = x.sign := ⟨_, rfl⟩
  rw [← hs7] at HW7 ⊢
  clear hs7
  go_wp2_with fail
  refine (wideOfInt_any y w7 h2 h3).mono ?_
  rintro e8 w8 ⟨v8, rfl, hb8, hW8⟩
  have hz8 := hb8.size
  have z0b : w8.cell? ⟨w.heap.size, 0, none⟩ = some (.int .i64 0) := by { rw [cellB hb8 _ _ (by first | (simp; done) | (simp; omega) | omega)]; all_goals (first | assumption | go_simp) }; have z1b : w8.cell? ⟨w.heap.size, 1, none⟩ = some (.slice none 0 0) := by { rw [cellB hb8 _ _ (by first | (simp; done) | (simp; omega) | omega)]; all_goals (first | assumption | go_simp) }; have z2b : w8.cell? ⟨w.heap.size, 2, none⟩ = some (.int .i64 0) := by { rw [cellB hb8 _ _ (by first | (simp; done) | (simp; omega) | omega)]; all_goals (first | assumption | go_simp) }; have z3b : w8.cell? ⟨w.heap.size, 3, none⟩ = some (.slice none 0 0) := by { rw [cellB hb8 _ _ (by first | (simp; done) | (simp; omega) | omega)]; all_goals (first | assumption | go_simp) }; have f0b : w8.frozen? ⟨w.heap.size, 0, none⟩ = false := by { rw [frozenB hb8 _ _ (by first | (simp; done) | (simp; omega) | omega)]; all_goals (first | assumption | go_simp) }; have f1b : w8.frozen? ⟨w.heap.size, 1, none⟩ = false := by { rw [frozenB hb8 _ _ (by first | (simp; done) | (simp; omega) | omega)]; all_goals (first | assumption | go_simp) }; have f2b : w8.frozen? ⟨w.heap.size, 2, none⟩ = false := by { rw [frozenB hb8 _ _ (by first | (simp; done) | (simp; omega) | omega)]; all_goals (first | assumption | go_simp) }; have f3b : w8.frozen? ⟨w.heap.size, 3, none⟩ = false := by { rw [frozenB hb8 _ _ (by first | (simp; done) | (simp; omega) | omega)]; all_goals (first | assumption | go_simp) }; have lb : w.heap.size < w8.heap.size := by { omega }
  have HB8 := Lib.hid (HB7.out.trans (hb8.mono hz7))
  have HMK := Lib.hid (fun e => ratioMake_any (fun b => w.heap.size + 1 ≤ b ∧ b < w8.heap.size) _ _ x y 3 w8 ((HW7.out.below hb8).here.mono (fun b hb => by omega)) (hW8.here.mono (fun b hb => by omega)) (fun b hb => hb.2) HY.out (int_digits h0 h1) (int_digits h2 h3) e)
  obtain ⟨a8, n8, c8, l8, rfl, _⟩ := hW8
  clear hb8 z0a z1a z2a z3a f0a f1a f2a f3a la HW7
  obtain ⟨s8, hs8⟩ : ∃ s, s = y.sign := ⟨_, rfl⟩
  rw [← hs8] at HMK ⊢
  clear hs8
  go_wp2_with fail
  refine (HMK.out (by omega)).mono ?_
  rintro e9 w9 ⟨v9, rfl, hb9, hW9⟩
  have hz9 := hb9.size
  have z0c : w9.cell? ⟨w.heap.size, 0, none⟩ = some (.int .i64 0) := by { rw [cellB hb9 _ _ (by first | (simp; done) | (simp; omega) | omega)]; all_goals (first | assumption | go_simp) }; have z1c : w9.cell? ⟨w.heap.size, 1, none⟩ = some (.slice none 0 0) := by { rw [cellB hb9 _ _ (by first | (simp; done) | (simp; omega) | omega)]; all_goals (first | assumption | go_simp) }; have z2c : w9.cell? ⟨w.heap.size, 2, none⟩ = some (.int .i64 0) := by { rw [cellB hb9 _ _ (by first | (simp; done) | (simp; omega) | omega)]; all_goals (first | assumption | go_simp) }; have z3c : w9.cell? ⟨w.heap.size, 3, none⟩ = some (.slice none 0 0) := by { rw [cellB hb9 _ _ (by first | (simp; done) | (simp; omega) | omega)]; all_goals (first | assumption | go_simp) }; have f0c : w9.frozen? ⟨w.heap.size, 0, none⟩ = false := by { rw [frozenB hb9 _ _ (by first | (simp; done) | (simp; omega) | omega)]; all_goals (first | assumption | go_simp) }; have f1c : w9.frozen? ⟨w.heap.size, 1, none⟩ = false := by { rw [frozenB hb9 _ _ (by first | (simp; done) | (simp; omega) | omega)]; all_goals (first | assumption | go_simp) }; have f2c : w9.frozen? ⟨w.heap.size, 2, none⟩ = false := by { rw [frozenB hb9 _ _ (by first | (simp; done) | (simp; omega) | omega)]; all_goals (first | assumption | go_simp) }; have f3c : w9.frozen? ⟨w.heap.size, 3, none⟩ = false := by { rw [frozenB hb9 _ _ (by first | (simp; done) | (simp; omega) | omega)]; all_goals (first | assumption | go_simp) }; have lc : w.heap.size < w9.heap.size := by { omega }
  have HB9 := Lib.hid (HB8.out.trans (hb9.mono (by omega)))
  have HW9 := Lib.hid (hW9.mono (p' := fun b => w.heap.size + 1 ≤ b) (fun b hb => by rcases hb with hb | hb; exact hb.1; omega))
  obtain ⟨t1, b1, o1, k1, t2, b2, o2, k2, rfl, _⟩ := hW9
  clear hb9 HMK z0b z1b z2b z3b f0b f1b f2b f3b lb
  go_wp2
  refine bodyPost_ret (v := .agg #[.int .i64 t1, .slice b1 o1 k1, .int .i64 t2, .slice b2 o2 k2]) (by simp [results, Try.results14, go_sem, *]) rfl ⟨_, rfl, ?_, ?_⟩
  · exact ((((HB6.out.trans (HB9.out.mono (by omega))).setCell (by simp) _).setCell (by simp) _).setCell (by simp) _).setCell (by simp) _
  · refine RatioR.mono (p := fun b => w.heap.size + 1 ≤ b) (RatioR.kept (w := w9) HW9.out (by simp) (fun b hb => ?_)) (fun b hb => by omega)
    rw [Go.Deep.blk_setCell_other _ _ _ _ (by simp; omega), Go.Deep.blk_setCell_other _ _ _ _ (by simp; omega), Go.Deep.blk_setCell_other _ _ _ _ (by simp; omega), Go.Deep.blk_setCell_other _ _ _ _ (by simp; omega)]
end Go.Proofs.Ytbjgklifmillgaa
