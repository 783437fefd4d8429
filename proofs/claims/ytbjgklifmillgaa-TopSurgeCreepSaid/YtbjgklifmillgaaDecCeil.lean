import Derived.Lib.ConvBytes
import Derived.Test.YtbjgklifmillgaaMRf
/- base.Decimal of a digit, base.Ceil. -/
namespace Go.Proofs.Ytbjgklifmillgaa
open Go.RowKit
set_option linter.unusedVariables false

/-- A digit as a string. -/
def digS (k : Nat) : ByteArray := ⟨#[UInt8.ofNat (48 + k)]⟩
set_option maxHeartbeats 2000000 in
set_option maxRecDepth 100000 in
theorem decimal_zero (w : World) : Calls Try.prog 36 #[.int .i64 0] w fun e' w' => e' = .returned (.string (digS 0)) ∧ Below w.heap.size w w' := by
  go_enter Try.func36, Try.ntmps36
  go_wp2
  go_ret
  exact ⟨rfl, Below.refl _ _⟩
set_option maxHeartbeats 2000000 in
set_option maxRecDepth 100000 in
theorem decimal_1 (w : World) : Calls Try.prog 36 #[.int .i64 1] w fun e' w' => e' = .returned (.string (digS 1)) ∧ Below w.heap.size w w' := by
  have kc := run_convert_bytes_back (P := Try.prog) (w.alloc (Obj.cells #[.int .u8 49] 5)) 157 9 5 ⟨w.heap.size, 0, none⟩ 1 [49] Try.underlying157 Try.underlying5 Try.underlying9 (fun j hj => by
    obtain rfl : j = 0 := by simpa using hj
    simp [go_sem])
  simp only [List.length_singleton] at kc
  go_enter Try.func36, Try.ntmps36
  go_wp2_with fail
  refine wp_loop_rounds 2 ?_
  rw [rounds_succ]
  go_wp2_with fail
  refine (bsize_any _ _ (by omega) (by omega)).mono ?_
  rintro e5 w5 ⟨rfl, rfl⟩
  rw [show sz 1 = 1 from rfl]
  go_wp2_with fail
  rw [rounds_succ]
  go_wp2
  go_ret
  exact ⟨rfl, by (repeat' (first | (with_reducible exact Below.refl _ _) | (with_reducible assumption) | (with_reducible refine Below.drewN ?_ _) | (with_reducible refine Below.alloc ?_ ?_ _) | (with_reducible refine Below.drew ?_) | (with_reducible refine Below.setCell ?_ ?_ _) | (with_reducible refine Below.step (by assumption) ?_ ?_) | (with_reducible exact And.left (by assumption)) | go_size))⟩
set_option maxHeartbeats 2000000 in
set_option maxRecDepth 100000 in
theorem decimal_2 (w : World) : Calls Try.prog 36 #[.int .i64 2] w fun e' w' => e' = .returned (.string (digS 2)) ∧ Below w.heap.size w w' := by
  have kc := run_convert_bytes_back (P := Try.prog) (w.alloc (Obj.cells #[.int .u8 50] 5)) 157 9 5 ⟨w.heap.size, 0, none⟩ 1 [50] Try.underlying157 Try.underlying5 Try.underlying9 (fun j hj => by
    obtain rfl : j = 0 := by simpa using hj
    simp [go_sem])
  simp only [List.length_singleton] at kc
  go_enter Try.func36, Try.ntmps36
  go_wp2_with fail
  refine wp_loop_rounds 2 ?_
  rw [rounds_succ]
  go_wp2_with fail
  refine (bsize_any _ _ (by omega) (by omega)).mono ?_
  rintro e5 w5 ⟨rfl, rfl⟩
  rw [show sz 2 = 2 from rfl]
  go_wp2_with fail
  rw [rounds_succ]
  go_wp2
  go_ret
  exact ⟨rfl, by (repeat' (first | (with_reducible exact Below.refl _ _) | (with_reducible assumption) | (with_reducible refine Below.drewN ?_ _) | (with_reducible refine Below.alloc ?_ ?_ _) | (with_reducible refine Below.drew ?_) | (with_reducible refine Below.setCell ?_ ?_ _) | (with_reducible refine Below.step (by assumption) ?_ ?_) | (with_reducible exact And.left (by assumption)) | go_size))⟩
set_option maxHeartbeats 2000000 in
set_option maxRecDepth 100000 in
theorem decimal_3 (w : World) : Calls Try.prog 36 #[.int .i64 3] w fun e' w' => e' = .returned (.string (digS 3)) ∧ Below w.heap.size w w' := by
  have kc := run_convert_bytes_back (P := Try.prog) (w.alloc (Obj.cells #[.int .u8 51] 5)) 157 9 5 ⟨w.heap.size, 0, none⟩ 1 [51] Try.underlying157 Try.underlying5 Try.underlying9 (fun j hj => by
    obtain rfl : j = 0 := by simpa using hj
    simp [go_sem])
  simp only [List.length_singleton] at kc
  go_enter Try.func36, Try.ntmps36
  go_wp2_with fail
  refine wp_loop_rounds 2 ?_
  rw [rounds_succ]
  go_wp2_with fail
  refine (bsize_any _ _ (by omega) (by omega)).mono ?_
  rintro e5 w5 ⟨rfl, rfl⟩
  rw [show sz 3 = 3 from rfl]
  go_wp2_with fail
  rw [rounds_succ]
  go_wp2
  go_ret
  exact ⟨rfl, by (repeat' (first | (with_reducible exact Below.refl _ _) | (with_reducible assumption) | (with_reducible refine Below.drewN ?_ _) | (with_reducible refine Below.alloc ?_ ?_ _) | (with_reducible refine Below.drew ?_) | (with_reducible refine Below.setCell ?_ ?_ _) | (with_reducible refine Below.step (by assumption) ?_ ?_) | (with_reducible exact And.left (by assumption)) | go_size))⟩
set_option maxHeartbeats 2000000 in
set_option maxRecDepth 100000 in
theorem decimal_4 (w : World) : Calls Try.prog 36 #[.int .i64 4] w fun e' w' => e' = .returned (.string (digS 4)) ∧ Below w.heap.size w w' := by
  have kc := run_convert_bytes_back (P := Try.prog) (w.alloc (Obj.cells #[.int .u8 52] 5)) 157 9 5 ⟨w.heap.size, 0, none⟩ 1 [52] Try.underlying157 Try.underlying5 Try.underlying9 (fun j hj => by
    obtain rfl : j = 0 := by simpa using hj
    simp [go_sem])
  simp only [List.length_singleton] at kc
  go_enter Try.func36, Try.ntmps36
  go_wp2_with fail
  refine wp_loop_rounds 2 ?_
  rw [rounds_succ]
  go_wp2_with fail
  refine (bsize_any _ _ (by omega) (by omega)).mono ?_
  rintro e5 w5 ⟨rfl, rfl⟩
  rw [show sz 4 = 4 from rfl]
  go_wp2_with fail
  rw [rounds_succ]
  go_wp2
  go_ret
  exact ⟨rfl, by (repeat' (first | (with_reducible exact Below.refl _ _) | (with_reducible assumption) | (with_reducible refine Below.drewN ?_ _) | (with_reducible refine Below.alloc ?_ ?_ _) | (with_reducible refine Below.drew ?_) | (with_reducible refine Below.setCell ?_ ?_ _) | (with_reducible refine Below.step (by assumption) ?_ ?_) | (with_reducible exact And.left (by assumption)) | go_size))⟩
set_option maxHeartbeats 2000000 in
set_option maxRecDepth 100000 in
theorem decimal_5 (w : World) : Calls Try.prog 36 #[.int .i64 5] w fun e' w' => e' = .returned (.string (digS 5)) ∧ Below w.heap.size w w' := by
  have kc := run_convert_bytes_back (P := Try.prog) (w.alloc (Obj.cells #[.int .u8 53] 5)) 157 9 5 ⟨w.heap.size, 0, none⟩ 1 [53] Try.underlying157 Try.underlying5 Try.underlying9 (fun j hj => by
    obtain rfl : j = 0 := by simpa using hj
    simp [go_sem])
  simp only [List.length_singleton] at kc
  go_enter Try.func36, Try.ntmps36
  go_wp2_with fail
  refine wp_loop_rounds 2 ?_
  rw [rounds_succ]
  go_wp2_with fail
  refine (bsize_any _ _ (by omega) (by omega)).mono ?_
  rintro e5 w5 ⟨rfl, rfl⟩
  rw [show sz 5 = 5 from rfl]
  go_wp2_with fail
  rw [rounds_succ]
  go_wp2
  go_ret
  exact ⟨rfl, by (repeat' (first | (with_reducible exact Below.refl _ _) | (with_reducible assumption) | (with_reducible refine Below.drewN ?_ _) | (with_reducible refine Below.alloc ?_ ?_ _) | (with_reducible refine Below.drew ?_) | (with_reducible refine Below.setCell ?_ ?_ _) | (with_reducible refine Below.step (by assumption) ?_ ?_) | (with_reducible exact And.left (by assumption)) | go_size))⟩
theorem decimal_any (k : Nat) (w : World) (hk : k ≤ 5) : Calls Try.prog 36 #[.int .i64 (k : Int)] w fun e' w' => e' = .returned (.string (digS k)) ∧ Below w.heap.size w w' := by
  match k, hk with
  | 0, _ => exact decimal_zero w
  | 1, _ => exact decimal_1 w
  | 2, _ => exact decimal_2 w
  | 3, _ => exact decimal_3 w
  | 4, _ => exact decimal_4 w
  | 5, _ => exact decimal_5 w
set_option maxRecDepth 100000 in
theorem ceil_any (x y : Int) (w : World) (hx0 : -9000000000000000000 ≤ x) (hx1 : x ≤ 9000000000000000000) (hy : 0 < y) (hy1 : y ≤ 9000000000000000000) :
    Calls Try.prog 37 #[.int .i64 x, .int .i64 y] w fun e' w' => e' = .returned (.int .i64 (-((-x) / y))) ∧ Below w.heap.size w w' := by
  have HF := Lib.hid (fun w' => floor_pos (-x) y w' (by omega) (by omega) hy hy1)
  have h1 : -9000000000000000000 ≤ (-x) / y ∧ (-x) / y ≤ 9000000000000000000 := by
    have e := Int.mul_ediv_add_emod (-x) y
    have r0 := Int.emod_nonneg (-x) (show y ≠ 0 by omega)
    have r1 := Int.emod_lt_of_pos (-x) hy
    constructor
    · exact Int.le_ediv_of_mul_le hy (by have := Int.mul_le_mul_of_nonneg_left (show 1 ≤ y by omega) (show (0 : Int) ≤ 9000000000000000000 by omega); omega)
    · have := Int.ediv_le_self (a := (9000000000000000000 : Int)) y (by omega)
      exact Int.le_trans (Int.ediv_le_ediv hy (by omega)) this
  generalize (-x) / y = Z at *
  go_enter Try.func37, Try.ntmps37
  go_wp2_with fail
  refine (HF.out _).mono ?_
  rintro e5 w5 ⟨rfl, rfl⟩
  go_wp2
  go_ret
  exact ⟨rfl, Below.refl _ _⟩
end Go.Proofs.Ytbjgklifmillgaa
