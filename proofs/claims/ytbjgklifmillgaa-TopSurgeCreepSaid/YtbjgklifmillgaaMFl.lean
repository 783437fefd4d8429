import Derived.Test.YtbjgklifmillgaaAwake
import Derived.Test.YtbjgklifmillgaaMLd
import Derived.Test.YtbjgklifmillgaaMRf
import Derived.Test.YtbjgklifmillgaaMSch
import Derived.Test.YtbjgklifmillgaaMZer
import Derived.Test.YtbjgklifmillgaaRSteep
/- Contracts for SurgeFalling: fractions, ladders, the acceptance of voltages. -/
namespace Go.Proofs.Ytbjgklifmillgaa
open Go.RowKit
set_option linter.unusedVariables false

theorem isLowest_any (a b : Int) (w : World) (ha0 : -9223372036854775807 ≤ a) (ha1 : a ≤ 9223372036854775807) (hb0 : -9223372036854775807 ≤ b) (hb1 : b ≤ 9223372036854775807) :
    Calls Try.prog 22 #[.agg #[.int .i64 a, .int .i64 b]] w fun e' w' => e' = .returned (.bool (decide (b > 0) && (gc a b == 1))) ∧ Below w.heap.size w w' := by
  by_cases h : b > 0
  · have hb : decide (b > 0) = true := by simpa using h
    rw [hb, Bool.true_and]
    obtain ⟨g, hg⟩ : ∃ g, g = gc a b := ⟨_, rfl⟩
    have HG := Lib.hid (fun w' => bgcd_any a b w' ha0 ha1 hb0 hb1)
    rw [← hg] at HG ⊢
    clear hg h
    go_enter Try.func22, Try.ntmps22
    go_wp2_with fail
    refine (HG.out _).mono ?_
    rintro e5 w5 ⟨rfl, k, rfl⟩
    go_wp2
    go_ret
    exact ⟨rfl, by (repeat' (first | (with_reducible exact Below.refl _ _) | (with_reducible assumption) | (with_reducible refine Below.drewN ?_ _) | (with_reducible refine Below.alloc ?_ ?_ _) | (with_reducible refine Below.drew ?_) | (with_reducible refine Below.setCell ?_ ?_ _) | (with_reducible refine Below.step (by assumption) ?_ ?_) | (with_reducible exact And.left (by assumption)) | go_size))⟩
  · have hb : decide (b > 0) = false := by simpa using h
    rw [hb, Bool.false_and]
    clear h
    go_enter Try.func22, Try.ntmps22
    go_wp2
    go_ret
    exact ⟨rfl, by (repeat' (first | (with_reducible exact Below.refl _ _) | (with_reducible assumption) | (with_reducible refine Below.drewN ?_ _) | (with_reducible refine Below.alloc ?_ ?_ _) | (with_reducible refine Below.drew ?_) | (with_reducible refine Below.setCell ?_ ?_ _) | (with_reducible refine Below.step (by assumption) ?_ ?_) | (with_reducible exact And.left (by assumption)) | go_size))⟩
/-- The error of a fraction. -/
def frE (a b : Int) : Int := if (decide (b > 0) && (gc a b == 1)) = true then (if (wi a (-1000000000) 1000000000 && wi b 1 1000000000) = true then 0 else 2) else 3
theorem rfracErr_any (a b : Int) (w : World) (ha0 : -9223372036854775807 ≤ a) (ha1 : a ≤ 9223372036854775807) (hb0 : -9223372036854775807 ≤ b) (hb1 : b ≤ 9223372036854775807) :
    Calls Try.prog 88 #[.agg #[.int .i64 a, .int .i64 b]] w fun e' w' => e' = .returned (.int .i64 (frE a b)) ∧ Below w.heap.size w w' := by
  have HI := Lib.hid (fun w' => isLowest_any a b w' ha0 ha1 hb0 hb1)
  have HS := Lib.hid (fun w' => bisSmall_any a b w')
  unfold frE
  generalize (decide (b > 0) && (gc a b == 1)) = x at *
  generalize (wi a (-1000000000) 1000000000 && wi b 1 1000000000) = y at *
  cases x
  · go_enter Try.func88, Try.ntmps88
    go_wp2_with fail
    refine (HI.out _).mono ?_
    rintro e5 w5 ⟨rfl, hb5⟩
    have HB5 := Lib.hid (show Below w.heap.size w w5 by (repeat' (first | (with_reducible exact Below.refl _ _) | (with_reducible assumption) | (with_reducible refine Below.drewN ?_ _) | (with_reducible refine Below.alloc ?_ ?_ _) | (with_reducible refine Below.drew ?_) | (with_reducible refine Below.setCell ?_ ?_ _) | (with_reducible refine Below.step (by assumption) ?_ ?_) | (with_reducible exact And.left (by assumption)) | go_size)))
    clear hb5
    go_wp2
    go_ret
    exact ⟨rfl, HB5.out⟩
  · go_enter Try.func88, Try.ntmps88
    go_wp2_with fail
    refine (HI.out _).mono ?_
    rintro e5 w5 ⟨rfl, hb5⟩
    have hz5 := hb5.size
    simp only [World.size_alloc] at hz5
    have q0 : w5.cell? ⟨w.heap.size, 0, none⟩ = some (.int .i64 a) := by { rw [cellB hb5 _ _ (by first | (simp; done) | (simp; omega) | omega)]; all_goals (first | assumption | go_simp) }; have q1 : w5.cell? ⟨w.heap.size, 1, none⟩ = some (.int .i64 b) := by { rw [cellB hb5 _ _ (by first | (simp; done) | (simp; omega) | omega)]; all_goals (first | assumption | go_simp) }; have l0 : w.heap.size < w5.heap.size := by { omega }
    have HB5 := Lib.hid (show Below w.heap.size w w5 by (repeat' (first | (with_reducible exact Below.refl _ _) | (with_reducible assumption) | (with_reducible refine Below.drewN ?_ _) | (with_reducible refine Below.alloc ?_ ?_ _) | (with_reducible refine Below.drew ?_) | (with_reducible refine Below.setCell ?_ ?_ _) | (with_reducible refine Below.step (by assumption) ?_ ?_) | (with_reducible exact And.left (by assumption)) | go_size)))
    clear hb5
    go_wp2_with fail
    refine (HS.out _).mono ?_
    rintro e6 w6 ⟨rfl, hb6⟩
    have HB6 := Lib.hid (HB5.out.trans (hb6.mono HB5.out.size))
    clear hb6
    cases y
    · go_wp2
      go_ret
      exact ⟨rfl, HB6.out⟩
    · go_wp2
      go_ret
      exact ⟨rfl, HB6.out⟩
theorem mod_any (n b : Int) (w : World) (hb0 : 0 < b) (hb1 : b ≤ 1000000) (hn0 : -9223372036854775808 ≤ n) (hn1 : n ≤ 9223372036854775807) :
    Calls Try.prog 8 #[.int .i64 n, .int .i64 b] w fun e' w' => e' = .returned (.int .i64 (n % b)) ∧ w = w' := by
  have e1 : (b == 0) = false := by simp; omega
  have hb := tmod_lt n b (by omega)
  have hr3 : 0 ≤ n % b := Int.emod_nonneg n (by omega)
  have hr4 : n % b < b := Int.emod_lt_of_pos n hb0
  have hr : (n.tmod b < 0 ∧ n % b = n.tmod b + b) ∨ (¬ n.tmod b < 0 ∧ n % b = n.tmod b) := by
    rcases Int.le_total 0 n with h | h
    · rw [Int.tmod_eq_emod_of_nonneg h]; exact .inr ⟨by omega, rfl⟩
    · obtain ⟨m, rfl⟩ : ∃ m, n = -m := ⟨-n, by omega⟩
      have hm : 0 ≤ m := by omega
      have h1 : m % b < b := Int.emod_lt_of_pos m hb0
      have h2 : 0 ≤ m % b := Int.emod_nonneg m (by omega)
      rw [Int.neg_tmod, Int.tmod_eq_emod_of_nonneg hm]
      have h3 : m = b * (m / b) + m % b := (Int.mul_ediv_add_emod m b).symm
      by_cases h5 : m % b = 0
      · refine .inr ⟨by omega, ?_⟩
        rw [h5, Int.neg_zero]
        have : -m = b * (-(m / b)) := by rw [Int.mul_neg]; omega
        rw [this, Int.mul_emod_right]
      · refine .inl ⟨by omega, ?_⟩
        have h4 : -m = -(m % b) + b + b * (-(m / b) - 1) := by
          have : b * (-(m / b) - 1) = -(b * (m / b)) - b := by rw [Int.mul_sub, Int.mul_neg, Int.mul_one]
          omega
        rw [h4, Int.add_mul_emod_self_left]
        exact Int.emod_eq_of_lt (by omega) (by omega)
  obtain ⟨t, ht⟩ : ∃ t, t = n.tmod b := ⟨_, rfl⟩
  rw [← ht] at hr hb
  have hb2 : -1000000 ≤ t ∧ t ≤ 1000000 := by omega
  have ht2 : n.tmod b = t := ht.symm
  generalize n % b = R at *
  clear ht hb
  rcases hr with ⟨h1, rfl⟩ | ⟨h1, rfl⟩
  · go_enter Try.func8, Try.ntmps8
    go_wp2
    go_ret
    exact ⟨rfl, rfl⟩
  · go_enter Try.func8, Try.ntmps8
    go_wp2
    go_ret
    exact ⟨rfl, rfl⟩
set_option maxRecDepth 100000 in
theorem copyFracs_any (l : List (Int × Int)) (a : Option Addr) (n c : Nat) (w : World) (h : PairsR w a n l) (hn : n ≤ 100000) :
    Calls Try.prog 42 #[.slice a n c] w fun e' w' => ∃ a' c', e' = .returned (.slice a' n c') ∧ Below w.heap.size w w' ∧ w'.ownsRow w.heap.size 39 2 (.slice a' n c') n (pcells l) := by
  have H := Lib.hid h
  clear h
  go_enter Try.func42, Try.ntmps42
  go_wp2_with (at_builtin; refine wpList_append_sl _ rfl _ _ 99 rfl w.heap.size 39 _ 2 16 Try.underlying99 infoFrac rfl (by omega) _ _ _ rfl (World.ownsRow_made w #[] 0 (by omega) (by simp [maxLen]) rfl) a n c (pcells l) rfl (H.out.below (by (repeat' (first | (with_reducible exact Below.refl _ _) | (with_reducible assumption) | (with_reducible refine Below.drewN ?_ _) | (with_reducible refine Below.alloc ?_ ?_ _) | (with_reducible refine Below.drew ?_) | (with_reducible refine Below.setCell ?_ ?_ _) | (with_reducible refine Below.step (by assumption) ?_ ?_) | (with_reducible exact And.left (by assumption)) | go_size)))) (pcells_one _) (by omega) (by omega) (by simp) ?_)
  intro v2 w2 hown2 _ hb2
  try simp only [Nat.zero_add, List.nil_append] at hown2
  obtain ⟨a', c', rfl, _, _⟩ := owns_slice hown2
  have HO := Lib.hid hown2
  have HB := Lib.hid hb2
  clear hown2 hb2
  go_wp2
  go_ret
  exact ⟨a', c', rfl, Below.trans (by (repeat' (first | (with_reducible exact Below.refl _ _) | (with_reducible assumption) | (with_reducible refine Below.drewN ?_ _) | (with_reducible refine Below.alloc ?_ ?_ _) | (with_reducible refine Below.drew ?_) | (with_reducible refine Below.setCell ?_ ?_ _) | (with_reducible refine Below.step (by assumption) ?_ ?_) | (with_reducible exact And.left (by assumption)) | go_size))) HB.out, HO.out⟩
set_option maxRecDepth 100000 in
theorem fracErr_ok (a b : Int) (w : World) (hb : 0 < b) (hg : gc a b = 1) (ha0 : -1000000000 ≤ a) (ha1 : a ≤ 1000000000) (hb1 : b ≤ 1000000000) :
    Calls Try.prog 128 #[.agg #[.int .i64 a, .int .i64 b]] w fun e' w' => e' = .returned (.int .i64 0) ∧ Below w.heap.size w w' := by
  have hbb : decide (b > 0) = true := by simpa using hb
  have HD := Lib.hid (fun w' => divisor_any a b w' (by omega) (by omega) (by omega) (by omega))
  rw [hg] at HD
  have HS := Lib.hid (fun w' => isSmall_any a b w')
  rw [wi_iff.2 ⟨ha0, ha1⟩, decide_eq_true hb1] at HS
  clear hg
  go_enter Try.func128, Try.ntmps128
  go_wp2
  refine later_of_eq 13 (by kernel_rfl) (by kernel_rfl) ?_; simp only [List.take_succ_cons, List.take_zero, List.drop_succ_cons, List.drop_zero]; repeat go_big_quiet_step (first | (go_at_call 116; exact calls_later_drew (HD.out _)) | exact calls_later_same (unless_any _ _ _))
  refine wpQuiet_nil ?_; intro w5 hb5
  have HB5 := Lib.hid (show Below w.heap.size w w5 by (repeat' (first | (with_reducible exact Below.refl _ _) | (with_reducible assumption) | (with_reducible refine Below.drewN ?_ _) | (with_reducible refine Below.alloc ?_ ?_ _) | (with_reducible refine Below.drew ?_) | (with_reducible refine Below.setCell ?_ ?_ _) | (with_reducible refine Below.step (by assumption) ?_ ?_) | (with_reducible exact And.left (by assumption)) | go_size)))
  clear hb5
  go_wp2_with fail
  refine (HS.out _).mono ?_
  rintro e6 w6 ⟨rfl, hb6⟩
  have HB6 := Lib.hid (HB5.out.trans (hb6.mono HB5.out.size))
  clear hb6
  go_wp2_with fail
  refine (unless_any _ _ _).mono ?_
  rintro e7 w7 ⟨rfl, rfl⟩
  go_wp2_with fail
  refine (first2 _ _ _ _ _ _ (by rfl) (by simp)).mono ?_
  rintro e8 w8 ⟨rfl, hw8⟩
  have HB8 := Lib.hid (show Below w.heap.size w w8 from HB6.out.trans ((show Below w6.heap.size w6 w8 by rw [← hw8]; (repeat' (first | (with_reducible exact Below.refl _ _) | (with_reducible assumption) | (with_reducible refine Below.drewN ?_ _) | (with_reducible refine Below.alloc ?_ ?_ _) | (with_reducible refine Below.drew ?_) | (with_reducible refine Below.setCell ?_ ?_ _) | (with_reducible refine Below.step (by assumption) ?_ ?_) | (with_reducible exact And.left (by assumption)) | go_size))).mono HB6.out.size))
  clear hw8
  go_wp2
  go_ret
  exact ⟨rfl, HB8.out⟩
end Go.Proofs.Ytbjgklifmillgaa

/- The reference's ladders. -/
namespace Go.Proofs.Ytbjgklifmillgaa
open Go.RowKit
set_option linter.unusedVariables false

abbrev g0_ (l : List Int) (i : Nat) : Int := l.getD i 0
set_option maxHeartbeats 1000000 in
set_option maxRecDepth 100000 in
theorem copyLadder_any (s e t : List Int) (a a1 a2 : Option Addr) (n c n1 c1 n2 c2 : Nat) (g : Bool) (w : World) (hs : IntsR w a n s) (he : IntsR w a1 n1 e) (ht : IntsR w a2 n2 t) (hn : n ≤ 100000) (hn1 : n1 ≤ 100000) (hn2 : n2 ≤ 100000) :
    Calls Try.prog 39 #[.agg #[.slice a n c, .slice a1 n1 c1, .slice a2 n2 c2, .bool g]] w fun e' w' => ∃ a3 c3 a4 c4 a5 c5, e' = .returned (.agg #[.slice a3 n c3, .slice a4 n1 c4, .slice a5 n2 c5, .bool g]) ∧ Below w.heap.size w w' ∧ IntsR w' a3 n s ∧ IntsR w' a4 n1 e ∧ IntsR w' a5 n2 t := by
  have H1 := Lib.hid (fun (w' : World) (hb' : Below w.heap.size w w') => copyInts_any s a n c w' (hs.below hb') hn)
  have H2 := Lib.hid (fun (w' : World) (hb' : Below w.heap.size w w') => copyInts_any e a1 n1 c1 w' (he.below hb') hn1)
  have H3 := Lib.hid (fun (w' : World) (hb' : Below w.heap.size w w') => copyInts_any t a2 n2 c2 w' (ht.below hb') hn2)
  clear hs he ht
  go_enter Try.func39, Try.ntmps39
  go_wp2_with fail
  generalize hW : (w.alloc _).alloc _ = w5
  have q0 : w5.cell? ⟨w.heap.size, 0, none⟩ = some (.slice a n c) := by { rw [← hW]; clear hW; go_simp }
  have q1 : w5.cell? ⟨w.heap.size, 1, none⟩ = some (.slice a1 n1 c1) := by { rw [← hW]; clear hW; go_simp }
  have q2 : w5.cell? ⟨w.heap.size, 2, none⟩ = some (.slice a2 n2 c2) := by { rw [← hW]; clear hW; go_simp }
  have q3 : w5.cell? ⟨w.heap.size, 3, none⟩ = some (.bool g) := by { rw [← hW]; clear hW; go_simp }
  have hr : w5.heap[w.heap.size + 1]? = some (.cells #[.slice none 0 0, .slice none 0 0, .slice none 0 0, .bool false] 87) := by
    rw [← hW]
    have := heap_alloc_new (w.alloc (Obj.cells #[.slice a n c, .slice a1 n1 c1, .slice a2 n2 c2, .bool g] 87)) (Obj.cells #[.slice none 0 0, .slice none 0 0, .slice none 0 0, .bool false] 87)
    rwa [World.size_alloc] at this
  have HB5 := Lib.hid (show Below w.heap.size w w5 by rw [← hW]; (repeat' (first | (with_reducible exact Below.refl _ _) | (with_reducible assumption) | (with_reducible refine Below.drewN ?_ _) | (with_reducible refine Below.alloc ?_ ?_ _) | (with_reducible refine Below.drew ?_) | (with_reducible refine Below.setCell ?_ ?_ _) | (with_reducible refine Below.step (by assumption) ?_ ?_) | (with_reducible exact And.left (by assumption)) | go_size)))
  have hsz : w5.heap.size = w.heap.size + 1 + 1 := by rw [← hW]; simp
  clear hW
  obtain ⟨X, hX⟩ : ∃ X, X = w.heap.size + 1 := ⟨_, rfl⟩
  rw [← hX] at hr
  simp only [← hX]
  have j0 : w.heap.size < w5.heap.size := by omega
  have j1 : X < w5.heap.size := by omega
  have j2 : w.heap.size ≤ X := by omega
  have HXX := Lib.hid hX
  clear hX hsz
  have HNv := Lib.hid (Below.refl w5.heap.size w5).drew
  refine wp_region_mixZ (B := w5.heap.size) [(true, 0), (true, 1), (true, 3), (true, 4), (true, 6), (true, 7), (true, 9), (true, 10), (false, 2), (false, 5), (false, 8), (true, 11), (false, 12)] 12 (by kernel_rfl) (by kernel_rfl) ?_; simp only [opsOf, List.filterMap_cons, List.filterMap_nil, List.getElem?_toArray, List.getElem?_cons_zero, List.getElem?_cons_succ, Option.map_some]
  repeat (refine mixz_head ?_; (show wpQuiet _ _ _ _ (_ :: _) _; go_big_quiet_step (fail)); refine wpQuiet_nil ?_)
  refine mixz_tail ?_; go_wp2_with fail
  refine (H1.out _ (HB5.out.trans (HNv.out.mono HB5.out.size))).mono ?_
  rintro e6 w6 ⟨a3, c3, rfl, hb6, ho6⟩
  have HI1 := Lib.hid (owns_mono (base' := w5.heap.size) ho6 HNv.out.size)
  have HNv := Lib.hid (HNv.out.trans (hb6.mono HNv.out.size))
  clear hb6 ho6
  go_wp2_with fail
  refine tailL_mk HNv.out ?_
  repeat (refine mixz_head ?_; (show wpQuiet _ _ _ _ (_ :: _) _; go_big_quiet_step (fail)); refine wpQuiet_nil ?_)
  refine mixz_tail ?_; go_wp2_with fail
  refine (H2.out _ (HB5.out.trans (HNv.out.mono HB5.out.size))).mono ?_
  rintro e7 w7 ⟨a4, c4, rfl, hb7, ho7⟩
  have HI1 := Lib.hid (owns_below HI1.out hb7 (fun z hz => (HI1.out.lt z hz).2))
  have HI2 := Lib.hid (owns_mono (base' := w5.heap.size) ho7 HNv.out.size)
  have HNv := Lib.hid (HNv.out.trans (hb7.mono HNv.out.size))
  clear hb7 ho7
  go_wp2_with fail
  refine tailL_mk HNv.out ?_
  repeat (refine mixz_head ?_; (show wpQuiet _ _ _ _ (_ :: _) _; go_big_quiet_step (fail)); refine wpQuiet_nil ?_)
  refine mixz_tail ?_; go_wp2_with fail
  refine (H3.out _ (HB5.out.trans (HNv.out.mono HB5.out.size))).mono ?_
  rintro e8 w8 ⟨a5, c5, rfl, hb8, ho8⟩
  have HI1 := Lib.hid (owns_below HI1.out hb8 (fun z hz => (HI1.out.lt z hz).2))
  have HI2 := Lib.hid (owns_below HI2.out hb8 (fun z hz => (HI2.out.lt z hz).2))
  have HI3 := Lib.hid (owns_mono (base' := w5.heap.size) ho8 HNv.out.size)
  have HNv := Lib.hid (HNv.out.trans (hb8.mono HNv.out.size))
  have hzv := HNv.out.size
  clear hb8 ho8
  have hr8 := (HNv.out.block X j1).trans hr
  have d0 := cell_of_row _ _ 0 _ _ _ hr8
  have d1 := cell_of_row _ _ 1 _ _ _ hr8
  have d2 := cell_of_row _ _ 2 _ _ _ hr8
  have d3 := cell_of_row _ _ 3 _ _ _ hr8
  have f0 := frozen_of_row _ _ 0 _ _ hr8
  have f1 := frozen_of_row _ _ 1 _ _ hr8
  have f2 := frozen_of_row _ _ 2 _ _ hr8
  have f3 := frozen_of_row _ _ 3 _ _ hr8
  simp only [List.getElem?_toArray, List.getElem?_cons_zero, List.getElem?_cons_succ] at d0 d1 d2 d3
  go_wp2_with fail
  refine tailL_mk HNv.out ?_
  repeat (refine mixz_head ?_; (show wpQuiet _ _ _ _ (_ :: _) _; go_big_quiet_step (fail)); refine wpQuiet_nil ?_)
  refine mixz_last ?_; go_wp2_with fail
  refine tailZ_end ?_
  have HB8 := Lib.hid (HB5.out.trans (HNv.out.mono HB5.out.size))
  go_wp2
  refine bodyPost_ret (v := .agg #[.slice a3 n c3, .slice a4 n1 c4, .slice a5 n2 c5, .bool g]) (by simp [results, Try.results39, go_sem, d0, d1, d2, d3]) rfl ⟨a3, c3, a4, c4, a5, c5, rfl, ?_, ?_, ?_, ?_⟩
  · exact Below.setCell (Below.setCell (Below.setCell (Below.setCell HB8.out j2 _) j2 _) j2 _) j2 _
  · exact SlR.of_owns (ownsRow_setCell_below (ownsRow_setCell_below (ownsRow_setCell_below (ownsRow_setCell_below HI1.out (a := ⟨X, 0, none⟩) j1 _) (a := ⟨X, 1, none⟩) j1 _) (a := ⟨X, 2, none⟩) j1 _) (a := ⟨X, 3, none⟩) j1 _)
  · exact SlR.of_owns (ownsRow_setCell_below (ownsRow_setCell_below (ownsRow_setCell_below (ownsRow_setCell_below HI2.out (a := ⟨X, 0, none⟩) j1 _) (a := ⟨X, 1, none⟩) j1 _) (a := ⟨X, 2, none⟩) j1 _) (a := ⟨X, 3, none⟩) j1 _)
  · exact SlR.of_owns (ownsRow_setCell_below (ownsRow_setCell_below (ownsRow_setCell_below (ownsRow_setCell_below HI3.out (a := ⟨X, 0, none⟩) j1 _) (a := ⟨X, 1, none⟩) j1 _) (a := ⟨X, 2, none⟩) j1 _) (a := ⟨X, 3, none⟩) j1 _)
end Go.Proofs.Ytbjgklifmillgaa
