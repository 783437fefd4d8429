/- The reference's value of an impulse: the walk. -/
import Derived.Test.YtiellefbndlkkaaRVal
namespace Go.Proofs.Ytiellefbndlkkaa
open Go.RowKit
set_option linter.unusedVariables false

set_option maxHeartbeats 2000000 in
set_option maxRecDepth 100000 in
theorem rvalue_any (l : List (Int × Int)) (t : Int) (a : Option Addr) (n c : Nat) (w : World) (hl : PairsR w a n l) (h0 : (impErr l).2 = 0) (t0 : 0 ≤ t) (t1 : t ≤ 1000000) :
    Calls Try.prog 56 #[.agg #[.slice a n c], .int .i64 t] w fun e' w' => ∃ num den, e' = .returned (.tuple #[.int .i64 num, .int .i64 den]) ∧ Below w.heap.size w w' ∧ RV l t num den := by
  have hz := impErr_zero h0
  have hlen := hl.len
  rw [hlen] at hz
  obtain ⟨q, rfl⟩ : ∃ q, n = q + 2 := ⟨n - 2, by omega⟩
  have hq : q ≤ 10 := by omega
  obtain ⟨b0, o0, rfl, hb0, hc0⟩ := hl.addr (by omega)
  have HC := Lib.hid hc0
  have HBD := Lib.hid (fun k (hk : k < q + 2) => imp_bd h0 k (by omega))
  have HLT := Lib.hid (fun k (hk : k + 1 < q + 2) => imp_lt h0 k (by omega))
  have HRV := Lib.hid (show ∀ num den, RV l t num den = ((t < (gp l 0).1 ∧ num = 0 ∧ den = 1) ∨ ((gp l 0).1 ≤ t ∧ (gp l (q + 1)).1 ≤ t ∧ num = (gp l (q + 1)).2 ∧ den = 1) ∨
      (∃ i, i + 1 < q + 2 ∧ (gp l i).1 ≤ t ∧ t < (gp l (i + 1)).1 ∧ den = (gp l (i + 1)).1 - (gp l i).1 ∧ num = (gp l i).2 * den + ((gp l (i + 1)).2 - (gp l i).2) * (t - (gp l i).1))) from fun num den => by
    unfold RV; rw [hlen]; rfl)
  clear hz hl hc0 hlen h0
  obtain ⟨x0, hx0⟩ : ∃ x, x = (gp l 0).1 := ⟨_, rfl⟩
  obtain ⟨xl, hxl⟩ : ∃ x, x = (gp l (q + 1)).1 := ⟨_, rfl⟩
  obtain ⟨yl, hyl⟩ : ∃ x, x = (gp l (q + 1)).2 := ⟨_, rfl⟩
  have c0 : w.cell? ⟨b0, o0, none⟩ = some (.int .i64 x0) := by have := (HC.out 0 (by omega)).1; rw [hx0]; simpa using this
  have cl : w.cell? ⟨b0, o0 + (q + 1) * 2, none⟩ = some (.int .i64 xl) := by rw [hxl]; exact (HC.out (q + 1) (by omega)).1
  have cy : w.cell? ⟨b0, o0 + (q + 1) * 2 + 1, none⟩ = some (.int .i64 yl) := by rw [hyl]; exact (HC.out (q + 1) (by omega)).2
  have HX := Lib.hid (And.intro hx0 (And.intro hxl hyl))
  have i1 : (0 : Int) < (q : Int) + 2 := by omega
  have i2 : (q : Int) + 2 - 1 = (q : Int) + 1 := by omega
  have i3 : (0 : Int) ≤ (q : Int) + 1 := by omega
  have i4 : (q : Int) + 1 < (q : Int) + 2 := by omega
  clear hx0 hxl hyl
  by_cases h1 : t < x0
  · go_enter Try.func56, Try.ntmps56
    go_wp2
    go_ret2
    exact ⟨0, 1, rfl, by (repeat' (first | (with_reducible exact Below.refl _ _) | (with_reducible assumption) | (with_reducible refine Below.drewN ?_ _) | (with_reducible refine Below.alloc ?_ ?_ _) | (with_reducible refine Below.drew ?_) | (with_reducible refine Below.setCell ?_ ?_ _) | (with_reducible refine Below.step (by assumption) ?_ ?_) | (with_reducible exact And.left (by assumption)) | go_size)), by rw [HRV.out]; exact .inl ⟨by rw [← HX.out.1]; exact h1, rfl, rfl⟩⟩
  · have h1d : ¬ (t < x0) := h1
    by_cases h2 : t ≥ xl
    · have h2d : xl ≤ t := h2
      go_enter Try.func56, Try.ntmps56
      go_wp2
      go_ret2
      exact ⟨yl, 1, rfl, by (repeat' (first | (with_reducible exact Below.refl _ _) | (with_reducible assumption) | (with_reducible refine Below.drewN ?_ _) | (with_reducible refine Below.alloc ?_ ?_ _) | (with_reducible refine Below.drew ?_) | (with_reducible refine Below.setCell ?_ ?_ _) | (with_reducible refine Below.step (by assumption) ?_ ?_) | (with_reducible exact And.left (by assumption)) | go_size)), by rw [HRV.out]; exact .inr (.inl ⟨by rw [← HX.out.1]; omega, by rw [← HX.out.2.1]; omega, HX.out.2.2, rfl⟩)⟩
    · have h2d : ¬ (xl ≤ t) := by omega
      have h2e : ¬ (t ≥ xl) := h2
      go_enter Try.func56, Try.ntmps56
      go_wp2
      generalize hW : w.alloc (Obj.cells #[.slice (some ⟨b0, o0, none⟩) (q + 2) c] 87) = w6
      have hb6 : Below w.heap.size w w6 := by rw [← hW]; (repeat' (first | (with_reducible exact Below.refl _ _) | (with_reducible assumption) | (with_reducible refine Below.drewN ?_ _) | (with_reducible refine Below.alloc ?_ ?_ _) | (with_reducible refine Below.drew ?_) | (with_reducible refine Below.setCell ?_ ?_ _) | (with_reducible refine Below.step (by assumption) ?_ ?_) | (with_reducible exact And.left (by assumption)) | go_size))
      have q0 : w6.cell? ⟨w.heap.size, 0, none⟩ = some (.slice (some ⟨b0, o0, none⟩) (q + 2) c) := by { rw [← hW]; clear hW; go_simp }
      have l0 : w.heap.size < w6.heap.size := by rw [← hW]; simp
      have HB6 := Lib.hid hb6
      have hb0' : b0 < w6.heap.size := by omega
      clear hW hb6 c0 cl cy
      go_loop [7] (fun i => ∃ k : Nat, i = .int .i64 k ∧ k + 1 < q + 2 ∧ Hid ((gp l k).1 ≤ t)) (fun i => q + 2 - (intOf i).toNat)
      case atStart => exact ⟨0, rfl, by omega, Lib.hid (by rw [← HX.out.1]; omega)⟩
      case round =>
        obtain ⟨k, rfl, hk, hF⟩ := hrel
        obtain ⟨x, hx⟩ : ∃ x, x = (gp l (k + 1)).1 := ⟨_, rfl⟩
        have cx : w6.cell? ⟨b0, o0 + (k + 1) * 2, none⟩ = some (.int .i64 x) := by rw [cellB HB6.out _ _ hb0, hx]; exact (HC.out (k + 1) hk).1
        have j0 : (0 : Int) ≤ (k : Int) := by omega
        have j1 : (k : Int) + 1 < (q : Int) + 2 := by omega
        have HX1 := Lib.hid hx
        clear hx
        by_cases hxt : x ≤ t
        · have hkq : k + 1 < q + 1 := by
            rcases Nat.lt_or_ge (k + 1) (q + 1) with h | h
            · exact h
            · exfalso
              have e1 : k + 1 = q + 1 := by omega
              have := HX1.out
              rw [e1, ← HX.out.2.1] at this
              omega
          go_wp2
          go_round
          case rel => exact ⟨k + 1, by go_num, by omega, Lib.hid (by rw [← HX1.out]; exact hxt)⟩
          case measure => simp [intOf]; omega
        · obtain ⟨y, hy⟩ : ∃ x, x = (gp l (k + 1)).2 := ⟨_, rfl⟩
          obtain ⟨p, hp⟩ : ∃ x, x = (gp l k).1 := ⟨_, rfl⟩
          obtain ⟨v, hv⟩ : ∃ x, x = (gp l k).2 := ⟨_, rfl⟩
          have cyy : w6.cell? ⟨b0, o0 + (k + 1) * 2 + 1, none⟩ = some (.int .i64 y) := by rw [cellB HB6.out _ _ hb0, hy]; exact (HC.out (k + 1) hk).2
          have cp : w6.cell? ⟨b0, o0 + k * 2, none⟩ = some (.int .i64 p) := by rw [cellB HB6.out _ _ hb0, hp]; exact (HC.out k (by omega)).1
          have cv : w6.cell? ⟨b0, o0 + k * 2 + 1, none⟩ = some (.int .i64 v) := by rw [cellB HB6.out _ _ hb0, hv]; exact (HC.out k (by omega)).2
          have bd1 := HBD.out k (by omega)
          have bd2 := HBD.out (k + 1) (by omega)
          have blt := HLT.out k hk
          have bpt := hF.out
          rw [← hp, ← hv] at bd1
          rw [← HX1.out, ← hy] at bd2
          rw [← hp, ← HX1.out] at blt
          rw [← hp] at bpt
          have HY := Lib.hid (And.intro hy (And.intro hp hv))
          have b1 := mulb (a := v) (b := x - p) 1000000 1000000 1000000000000 (by omega) (by omega) (by omega) (by omega) (by omega)
          have b2 := mulb (a := y - v) (b := t - p) 2000000 1000000 2000000000000 (by omega) (by omega) (by omega) (by omega) (by omega)
          have j2 : (k : Int) < (q : Int) + 2 := by omega
          have j3 : (k : Int) ≤ 9223372036854775806 := by omega
          clear hy hp hv
          go_wp2
          go_region
          all_goals
            go_wp2
            go_ret2
            refine ⟨v * (x - p) + (y - v) * (t - p), x - p, rfl, ?_, ?_⟩
            · have := HB6.out; (repeat' (first | (with_reducible exact Below.refl _ _) | (with_reducible assumption) | (with_reducible refine Below.drewN ?_ _) | (with_reducible refine Below.alloc ?_ ?_ _) | (with_reducible refine Below.drew ?_) | (with_reducible refine Below.setCell ?_ ?_ _) | (with_reducible refine Below.step (by assumption) ?_ ?_) | (with_reducible exact And.left (by assumption)) | go_size))
            · rw [HRV.out]
              refine .inr (.inr ⟨k, hk, hF.out, by rw [← HX1.out]; omega, ?_, ?_⟩)
              · rw [← HX1.out, ← HY.out.2.1]
              · rw [← HY.out.1, ← HY.out.2.1, ← HY.out.2.2]
end Go.Proofs.Ytiellefbndlkkaa
