import Derived.Test.YtdklmcicogmeaaaGreatLocP
import Derived.Test.YtdklmcicogmeaaaGreatMRctr
/- hasCell; base.Mod; arrays of three are equal or not. -/
namespace Go.Proofs.YtdklmcicogmeaaaGreat
open Go.RowKit
set_option linter.unusedVariables false

theorem arr3g (w : World) (a b c d e f : Int) : (Op.equalIn 10000 22 (.agg #[.int .i64 a, .int .i64 b, .int .i64 c]) (.agg #[.int .i64 d, .int .i64 e, .int .i64 f])).run Tryz.prog w = .ok (a == d && (b == e && c == f)) w := by
  obtain ⟨i, hi, _⟩ := info_parts infoInt
  have hc : Tryz.prog.cellsOf 3 = 1 := by kernel_rfl
  rw [show 10000 = 9999 + 1 from rfl, run_equalIn_array w 9999 _ _ (by first | exact Tryz.underlying22 | kernel_rfl) hi, hc]
  by_cases h1 : a = d
  · by_cases h2 : b = e
    · by_cases h3 : c = f <;> simp [Op.eqItems, List.range, List.range.loop, part, go_sem, h1, h2, h3]
    · have h2' : (b == e) = false := by simpa using h2
      simp [Op.eqItems, List.range, List.range.loop, part, go_sem, h1, h2']
  · have h1' : (a == d) = false := by simpa using h1
    simp [Op.eqItems, List.range, List.range.loop, part, go_sem, h1']
theorem run_eql_arr3 (w : World) (a b c d e f : Int) : (binOp .eql 22 (.agg #[.int .i64 a, .int .i64 b, .int .i64 c]) (.agg #[.int .i64 d, .int .i64 e, .int .i64 f])).run Tryz.prog w = .ok (.bool (a == d && (b == e && c == f))) w := by
  simp [go_sem, arr3g]
theorem bmod_any (n b : Int) (w : World) (hb0 : 0 < b) (hb1 : b ≤ 1000000) (hn0 : -9223372036854775808 ≤ n) (hn1 : n ≤ 9223372036854775807) :
    Calls Tryz.prog 12 #[.int .i64 n, .int .i64 b] w fun e' w' => e' = .returned (.int .i64 (n % b)) ∧ w = w' := by
  have e1 : (b == 0) = false := by simp; omega
  have hb := tmod_lt n b (by omega)
  have hr3 : 0 ≤ n % b := Int.emod_nonneg n (by omega)
  have hr4 : n % b < b := Int.emod_lt_of_pos n hb0
  have hr : (n.tmod b < 0 ∧ n % b = n.tmod b + b) ∨ (¬ n.tmod b < 0 ∧ n % b = n.tmod b) := by
    rcases Int.le_total 0 n with h | h
    · rw [Int.tmod_eq_emod_of_nonneg h]; exact .inr ⟨by omega, rfl⟩
    · obtain ⟨m, rfl⟩ : ∃ m, n = -m := ⟨-n, by omega⟩
      have hm : 0 ≤ m := by omega
      have h1 : m % b < b := Int.emod_lt_of_pos m hb0
      have h2 : 0 ≤ m % b := Int.emod_nonneg m (by omega)
      rw [Int.neg_tmod, Int.tmod_eq_emod_of_nonneg hm]
      have h3 : m = b * (m / b) + m % b := (Int.mul_ediv_add_emod m b).symm
      by_cases h5 : m % b = 0
      · refine .inr ⟨by omega, ?_⟩
        rw [h5, Int.neg_zero]
        have : -m = b * (-(m / b)) := by rw [Int.mul_neg]; omega
        rw [this, Int.mul_emod_right]
      · refine .inl ⟨by omega, ?_⟩
        have h4 : -m = -(m % b) + b + b * (-(m / b) - 1) := by
          have : b * (-(m / b) - 1) = -(b * (m / b)) - b := by rw [Int.mul_sub, Int.mul_neg, Int.mul_one]
          omega
        rw [h4, Int.add_mul_emod_self_left]
        exact Int.emod_eq_of_lt (by omega) (by omega)
  obtain ⟨t, ht⟩ : ∃ t, t = n.tmod b := ⟨_, rfl⟩
  rw [← ht] at hr hb
  have hb2 : -1000000 ≤ t ∧ t ≤ 1000000 := by omega
  have ht2 : n.tmod b = t := ht.symm
  generalize n % b = R at *
  clear ht hb
  rcases hr with ⟨h1, rfl⟩ | ⟨h1, rfl⟩
  · go_enter Tryz.func12, Tryz.ntmps12
    go_wp2
    go_ret
    exact ⟨rfl, rfl⟩
  · go_enter Tryz.func12, Tryz.ntmps12
    go_wp2
    go_ret
    exact ⟨rfl, rfl⟩
theorem ediv_bdL {x y : Int} (hx0 : -9000000000000000000 ≤ x) (hx1 : x ≤ 9000000000000000000) (hy : 0 < y) : -9000000000000000000 ≤ x / y ∧ x / y ≤ 9000000000000000000 := by
  constructor
  · exact Int.le_ediv_of_mul_le hy (by have := Int.mul_le_mul_of_nonneg_left (show 1 ≤ y by omega) (show (0 : Int) ≤ 9000000000000000000 by omega); omega)
  · have := Int.ediv_le_self (a := (9000000000000000000 : Int)) y (by omega)
    exact Int.le_trans (Int.ediv_le_ediv hy (by omega)) this
theorem bceil_any (x y : Int) (w : World) (hx0 : -9000000000000000000 ≤ x) (hx1 : x ≤ 9000000000000000000) (hy : 0 < y) (hy1 : y ≤ 9000000000000000000) :
    Calls Tryz.prog 15 #[.int .i64 x, .int .i64 y] w fun e' w' => e' = .returned (.int .i64 (-((-x) / y))) ∧ w = w' := by
  have HF := Lib.hid (fun w' => floor_pos (-x) y w' (by omega) (by omega) hy hy1)
  have h1 := ediv_bdL (x := -x) (by omega) (by omega) hy
  generalize (-x) / y = Z at *
  go_enter Tryz.func15, Tryz.ntmps15
  go_wp2_with fail
  refine (HF.out _).mono ?_
  rintro e5 w5 ⟨rfl, rfl⟩
  go_wp2
  go_ret
  exact ⟨rfl, rfl⟩
attribute [local go_sem] run_eql_arr3 arr3g
def celQ (c : T3) (v : Int) (p : Cel) : Bool := decide (p = ⟨c, v⟩)
theorem celQ_mk (x y z u a b c v : Int) : celQ ⟨x, y, z⟩ u ⟨⟨a, b, c⟩, v⟩ = ((a == x && (b == y && c == z)) && (v == u)) := by
  unfold celQ
  rw [Bool.eq_iff_iff]
  simp [and_assoc]
set_option maxHeartbeats 1000000 in
set_option maxRecDepth 100000 in
theorem hasCell_any (l : List Cel) (a : Option Addr) (n cp : Nat) (c : T3) (v : Int) (w : World) (hl : CelR w a n l) :
    Calls Tryz.prog 20 #[.slice a n cp, .agg #[.int .i64 c.x, .int .i64 c.y, .int .i64 c.z], .int .i64 v] w fun e' w' => e' = .returned (.bool (l.any (celQ c v))) ∧ Below w.heap.size w w' := by
  have hn := hl.small
  obtain ⟨x, y, z⟩ := c
  have HL := Lib.hid (fun (W : World) (hb : Below w.heap.size w W) => show CelR W a n l from ER.below hl hb)
  have HLN := Lib.hid (ER.len hl)
  clear hl
  simp only
  go_enter Tryz.func20, Tryz.ntmps20
  go_wp2_with fail
  obtain ⟨w1, hW⟩ : ∃ w1, w1 = w.alloc (Obj.cells #[.int .i64 x, .int .i64 y, .int .i64 z] 22) := ⟨_, rfl⟩
  rw [← hW]
  have hb1 : Below w.heap.size w w1 := by rw [hW]; (repeat' (first | (with_reducible exact Below.refl _ _) | (with_reducible assumption) | (with_reducible refine Below.drewN ?_ _) | (with_reducible refine Below.alloc ?_ ?_ _) | (with_reducible refine Below.drew ?_) | (with_reducible refine Below.setCell ?_ ?_ _) | (with_reducible refine Below.step (by assumption) ?_ ?_) | (with_reducible exact And.left (by assumption)) | go_size))
  have k1 : w1.heap[w.heap.size]? = some (.cells #[.int .i64 x, .int .i64 y, .int .i64 z] 22) := by rw [hW]; exact heap_alloc_new _ _
  have HB1 := Lib.hid hb1
  have HK1 := Lib.hid k1
  clear hW hb1 k1
  go_loopw [7] (fun i wr => ∃ k : Nat, i = .int .i64 (k : Int) ∧ k ≤ n ∧ Hid ((l.drop k).any (celQ ⟨x, y, z⟩ v) = l.any (celQ ⟨x, y, z⟩ v)) ∧ Hid (Below w1.heap.size w1 wr)) (fun i _ => n - (intOf i).toNat)
  case atStart => exact ⟨0, rfl, Nat.zero_le _, Lib.hid rfl, Lib.hid (Below.refl _ _)⟩
  case round =>
    obtain ⟨k, rfl, hk, hF, hB⟩ := hrel
    have i0 : (0 : Int) ≤ (k : Int) := by omega
    have hBw := Lib.hid (HB1.out.trans (hB.out.mono HB1.out.size))
    by_cases hlt : k < n
    · have i1 : (k : Int) < (n : Int) := by omega
      have kk := blk_below HK1.out hB.out
      have s0 := blk_cell kk (i := 0) rfl
      have s1 := blk_cell kk (i := 1) rfl
      have s2 := blk_cell kk (i := 2) rfl
      have ls := blk_lt kk
      obtain ⟨b1, o1, rfl, hb1, hc1⟩ := (HL.out _ hBw.out).addr4 (by omega)
      obtain ⟨⟨⟨x1, x2, x3⟩, x4⟩, hx⟩ := ER.get (HL.out _ hBw.out) hlt
      obtain ⟨p0, p1, p2, p3⟩ := hc1 k _ hx
      have hF' := hF.out
      rw [drop_cons' hx, List.any_cons, celQ_mk] at hF'
      have HF := Lib.hid hF'
      simp only at p0 p1 p2 p3
      clear hx hc1 kk hF hF'
      cases hA : (x1 == x && (x2 == y && x3 == z))
      · rw [hA] at HF
        go_wp2_with fail
        refine later_all (by kernel_rfl) (by kernel_rfl) ?_; repeat go_big_quiet_step(fail)
        refine wpQuiet_nil ?_; intro w5 hb5
        go_wp2_with fail
        go_roundw
        case rel => exact ⟨k + 1, by go_num, by omega, Lib.hid (by simpa using HF.out), Lib.hid (hB.out.trans (hb5.mono hB.out.size))⟩
        case measure => simp [intOf]; omega
      · rw [hA] at HF
        cases hV : (x4 == v)
        · rw [hV] at HF
          go_wp2_with fail
          refine later_all (by kernel_rfl) (by kernel_rfl) ?_; repeat go_big_quiet_step(fail)
          refine wpQuiet_nil ?_; intro w5 hb5
          go_wp2_with fail
          go_roundw
          case rel => exact ⟨k + 1, by go_num, by omega, Lib.hid (by simpa using HF.out), Lib.hid (hB.out.trans (hb5.mono hB.out.size))⟩
          case measure => simp [intOf]; omega
        · rw [hV] at HF
          go_wp2_with fail
          refine later_all (by kernel_rfl) (by kernel_rfl) ?_; repeat go_big_quiet_step(fail)
          refine wpQuiet_nil ?_; intro w5 hb5
          go_wp2
          go_ret
          exact ⟨ret_bool (by rw [← HF.out]; rfl), hBw.out.trans (hb5.mono hBw.out.size)⟩
    · obtain rfl : n = k := by omega
      go_wp2
      go_ret
      exact ⟨ret_bool (by rw [← hF.out, drop_end l _ (by rw [HLN.out]; exact Nat.le_refl _)]; rfl), hBw.out⟩
end Go.Proofs.YtdklmcicogmeaaaGreat
