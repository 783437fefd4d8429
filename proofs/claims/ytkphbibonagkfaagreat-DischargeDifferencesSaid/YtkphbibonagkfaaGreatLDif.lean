import Derived.Test.YtkphbibonagkfaaGreatDAwk
import Derived.Test.YtkphbibonagkfaaGreatRDif2
/- Differences of responses: the statement's function. -/
namespace Go.Proofs.YtkphbibonagkfaaGreat
open Go.RowKit
set_option linter.unusedVariables false

set_option maxHeartbeats 2000000 in
set_option maxRecDepth 100000 in
theorem dif_few (x y : Int) (al am : Option Addr) (n cl k ck : Nat) (w : World) (hn : n ≤ 9223372036854775807) (hk : k ≤ 9223372036854775807) (h : ¬ (n ≤ 10 ∧ k ≤ 10)) :
    Calls Tryz.prog 7 #[.slice al n cl, .slice am k ck, .agg #[.int .i64 x, .int .i64 y]] w fun e' w' => e' = .returned (.bool true) ∧ Below w.heap.size w w' := by
  by_cases h1 : n ≤ 10
  · have h2 : ¬ k ≤ 10 := fun h2 => h ⟨h1, h2⟩
    have e1 : decide (10 < (n : Int)) = false := decide_eq_false (by omega)
    have e1' : (10 < (n : Int)) = False := by simp; omega
    have e2 : decide (10 < (k : Int)) = true := decide_eq_true (by omega)
    have e2' : (10 < (k : Int)) = True := by simp; omega
    clear h h1 h2
    go_enter Tryz.func7, Tryz.ntmps7
    go_wp2_with fail
    refine (awake9_any _).mono ?_
    rintro e5 w5 ⟨rfl, hb5⟩
    have HB5 := Lib.hid (show Below w.heap.size w w5 from Below.trans (by (repeat' (first | (with_reducible exact Below.refl _ _) | (with_reducible assumption) | (with_reducible refine Below.drewN ?_ _) | (with_reducible refine Below.alloc ?_ ?_ _) | (with_reducible refine Below.drew ?_) | (with_reducible refine Below.setCell ?_ ?_ _) | (with_reducible refine Below.step (by assumption) ?_ ?_) | (with_reducible exact And.left (by assumption)) | go_size))) (hb5.mono (by simp)))
    clear hb5
    go_wp2
    go_ret
    exact ⟨rfl, HB5.out⟩
  · have e1 : decide (10 < (n : Int)) = true := decide_eq_true (by omega)
    have e1' : (10 < (n : Int)) = True := by simp; omega
    clear h h1
    go_enter Tryz.func7, Tryz.ntmps7
    go_wp2_with fail
    refine (awake9_any _).mono ?_
    rintro e5 w5 ⟨rfl, hb5⟩
    have HB5 := Lib.hid (show Below w.heap.size w w5 from Below.trans (by (repeat' (first | (with_reducible exact Below.refl _ _) | (with_reducible assumption) | (with_reducible refine Below.drewN ?_ _) | (with_reducible refine Below.alloc ?_ ?_ _) | (with_reducible refine Below.drew ?_) | (with_reducible refine Below.setCell ?_ ?_ _) | (with_reducible refine Below.step (by assumption) ?_ ?_) | (with_reducible exact And.left (by assumption)) | go_size))) (hb5.mono (by simp)))
    clear hb5
    go_wp2
    go_ret
    exact ⟨rfl, HB5.out⟩
set_option maxHeartbeats 2000000 in
set_option maxRecDepth 100000 in
theorem dif_main (x y : Int) (l m : List (Int × Int)) (al am : Option Addr) (n cl k ck : Nat) (w : World) (hl : PairsR w al n l) (hm : PairsR w am k m) (hx : -9223372036854775808 ≤ x ∧ x ≤ 9223372036854775807) (hy : y ≤ 9223372036854775807) (h1 : n ≤ 10) (h2 : k ≤ 10) :
    Calls Tryz.prog 7 #[.slice al n cl, .slice am k ck, .agg #[.int .i64 x, .int .i64 y]] w fun e' w' => e' = .returned (.bool true) ∧ Below w.heap.size w w' := by
  have HC1 := Lib.hid (fun (W : World) (hb : Below w.heap.size w W) => copyGausses_any l al n cl W (hl.below hb) (by omega))
  have HC2 := Lib.hid (fun (W : World) (hb : Below w.heap.size w W) => copyGausses_any m am k ck W (hm.below hb) (by omega))
  have HD := Lib.hid (fun (a1 a2 : Option Addr) (c1 c2 : Nat) (W : World) (h1 : PairsR W a1 n l) (h2 : PairsR W a2 k m) => differencesOf_any x y l m a1 a2 n c1 k c2 W h1 h2 hx hy)
  have HR := Lib.hid (fun (W : World) (hb : Below w.heap.size w W) => rDifferencesOf_any x y l m al am n cl k ck W (hl.below hb) (hm.below hb) hx hy)
  have e1 : decide (10 < (n : Int)) = false := decide_eq_false (by omega)
  have e1' : (10 < (n : Int)) = False := by simp; omega
  have e2 : decide (10 < (k : Int)) = false := decide_eq_false (by omega)
  have e2' : (10 < (k : Int)) = False := by simp; omega
  clear hl hm hx hy h1 h2
  generalize difE x y l m = E at *
  generalize (if E = 0 then difL x y l m else []) = L at *
  go_enter Tryz.func7, Tryz.ntmps7
  go_wp2_with fail
  generalize hW : World.alloc _ _ = w4
  have hb4 : Below w.heap.size w w4 := by rw [← hW]; (repeat' (first | (with_reducible exact Below.refl _ _) | (with_reducible assumption) | (with_reducible refine Below.drewN ?_ _) | (with_reducible refine Below.alloc ?_ ?_ _) | (with_reducible refine Below.drew ?_) | (with_reducible refine Below.setCell ?_ ?_ _) | (with_reducible refine Below.step (by assumption) ?_ ?_) | (with_reducible exact And.left (by assumption)) | go_size))
  have q0 : w4.cell? ⟨w.heap.size, 0, none⟩ = some (.int .i64 x) := by { rw [← hW]; clear hW; go_simp }
  have q1 : w4.cell? ⟨w.heap.size, 1, none⟩ = some (.int .i64 y) := by { rw [← hW]; clear hW; go_simp }
  have l4 : w.heap.size < w4.heap.size := by { rw [← hW]; clear hW; simp }
  have HB4 := Lib.hid hb4
  clear hW hb4
  refine (awake9_any _).mono ?_
  rintro e5 w5 ⟨rfl, hb5⟩
  have hz5 := hb5.size
  have q0d : w5.cell? ⟨w.heap.size, 0, none⟩ = some (.int .i64 x) := by { rw [cellB hb5 _ _ (by first | (simp; done) | (simp; omega) | omega)]; all_goals (first | assumption | go_simp) }; have q1d : w5.cell? ⟨w.heap.size, 1, none⟩ = some (.int .i64 y) := by { rw [cellB hb5 _ _ (by first | (simp; done) | (simp; omega) | omega)]; all_goals (first | assumption | go_simp) }; have l5 : w.heap.size < w5.heap.size := by { omega }
  have HB5 := Lib.hid (HB4.out.trans (hb5.mono HB4.out.size))
  clear hb5 q0 q1 l4 hz5
  go_wp2_with fail
  refine wp_region_laterM (B := w5.heap.size) [(true, 0), (true, 2), (true, 4), (false, 1), (false, 3), (false, 5), (true, 6), (true, 7), (true, 8), (true, 9), (true, 10)] (by kernel_rfl) (by kernel_rfl) ?_; simp only [opsOf, List.filterMap_cons, List.filterMap_nil, List.getElem?_toArray, List.getElem?_cons_zero, List.getElem?_cons_succ, Option.map_some]
  repeat (refine mix_head ?_; (show wpQuiet _ _ _ _ (_ :: _) _; go_big_quiet_step (fail)); refine wpQuiet_nil ?_)
  refine mix_tail ?_; go_wp2_with fail
  refine (HC1.out _ HB5.out.drew).mono ?_
  rintro e6 w6 ⟨a6, c6, rfl, hb6, hp6⟩
  have HX := Lib.hid ((Below.refl w5.heap.size w5).drew.trans hb6)
  clear hb6
  go_wp2_with fail
  refine tailL_mk HX.out ?_
  refine mix_tail ?_; go_wp2_with fail
  refine (HC2.out _ (HB5.out.trans (HX.out.mono HB5.out.size))).mono ?_
  rintro e7 w7 ⟨a7, c7, rfl, hb7, hp7⟩
  have hp6 := hp6.below hb7
  have HX := Lib.hid (HX.out.trans (hb7.mono HX.out.size))
  clear hb7
  go_wp2_with fail
  refine tailL_mk HX.out ?_
  refine mix_tail ?_; go_wp2_with fail
  refine (HD.out a6 a7 c6 c7 _ hp6 hp7).mono ?_
  rintro e8 w8 ⟨a8, k8, c8, rfl, hb8, hi8⟩
  have HX := Lib.hid (HX.out.trans (hb8.mono HX.out.size))
  clear hb8 hp6 hp7
  go_wp2_with fail
  refine tailL_mk HX.out ?_
  repeat (refine mix_head ?_; (show wpQuiet _ _ _ _ (_ :: _) _; go_big_quiet_step (fail)); refine wpQuiet_nil ?_)
  refine mix_nil ?_
  have hbx := HX.out
  have hzx := hbx.size
  have q0 : w8.cell? ⟨w.heap.size, 0, none⟩ = some (.int .i64 x) := by { rw [cellB hbx _ _ (by first | (simp; done) | (simp; omega) | omega)]; all_goals (first | assumption | go_simp) }; have q1 : w8.cell? ⟨w.heap.size, 1, none⟩ = some (.int .i64 y) := by { rw [cellB hbx _ _ (by first | (simp; done) | (simp; omega) | omega)]; all_goals (first | assumption | go_simp) }; have l8 : w.heap.size < w8.heap.size := by { omega }
  have HB8 := Lib.hid (HB5.out.trans (hbx.mono HB5.out.size))
  clear hbx hzx HX q0d q1d l5
  go_wp2_with fail
  refine (HR.out _ HB8.out).mono ?_
  rintro e9 w9 ⟨a9, k9, c9, rfl, hb9, hi9⟩
  have hi8 := hi8.below hb9
  have HB9 := Lib.hid (HB8.out.trans (hb9.mono HB8.out.size))
  have hee : (E == E) = true := by simp
  clear hb9
  go_wp2_with fail
  refine (ints_any (nats L) (nats L) a8 a9 k8 c8 k9 c9 _ hi8 hi9).mono ?_
  rintro e10 w10 ⟨rfl, m10, rfl⟩
  go_wp2
  go_ret
  exact ⟨ret_bool (by simp), by have := HB9.out; (repeat' (first | (with_reducible exact Below.refl _ _) | (with_reducible assumption) | (with_reducible refine Below.drewN ?_ _) | (with_reducible refine Below.alloc ?_ ?_ _) | (with_reducible refine Below.drew ?_) | (with_reducible refine Below.setCell ?_ ?_ _) | (with_reducible refine Below.step (by assumption) ?_ ?_) | (with_reducible exact And.left (by assumption)) | go_size))⟩
theorem dif_walk (l : List (Int × Int)) (al : Option Addr) (n cl : Nat) (m : List (Int × Int)) (am : Option Addr) (k ck : Nat) (x y : Int) (w : World) (hl : PairsR w al n l) (hm : PairsR w am k m) (hb : (-9223372036854775808 ≤ x ∧ x ≤ 9223372036854775807) ∧ -9223372036854775808 ≤ y ∧ y ≤ 9223372036854775807) :
    Calls Tryz.prog 7 #[.slice al n cl, .slice am k ck, .agg #[.int .i64 x, .int .i64 y]] w fun e' w' => e' = .returned (.bool true) ∧ Below w.heap.size w w' := by
  by_cases h : n ≤ 10 ∧ k ≤ 10
  · exact dif_main x y l m al am n cl k ck w hl hm hb.1 hb.2.2 h.1 h.2
  · exact dif_few x y al am n cl k ck w hl.small hm.small h
end Go.Proofs.YtkphbibonagkfaaGreat
