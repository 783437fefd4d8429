import Derived.Test.YtkphbibonagkfaaGreatDGrid
/- The distance range of a cell: the program's function. -/
namespace Go.Proofs.YtkphbibonagkfaaGreat
open Go.RowKit
set_option linter.unusedVariables false

theorem axN_bd {lo st : Int} (h1 : -20000 ≤ lo) (h2 : lo ≤ 25000) (h3 : 1 ≤ st) (h4 : st ≤ 1000) : 0 ≤ axN lo st ∧ axN lo st ≤ 25000 := by
  unfold axN; split
  · omega
  · split <;> omega
theorem axF_bd {lo st : Int} (h1 : -20000 ≤ lo) (h2 : lo ≤ 25000) (h3 : 1 ≤ st) (h4 : st ≤ 1000) : 0 ≤ axF lo st ∧ axF lo st ≤ 26000 := by
  unfold axF; split <;> omega
theorem sq_bd {a : Int} (h0 : 0 ≤ a) (h1 : a ≤ 26000) : 0 ≤ a * a ∧ a * a ≤ 676000000 := by
  have := Int.mul_le_mul h1 h1 h0 (by omega)
  exact ⟨Int.mul_nonneg h0 h0, by omega⟩
theorem coord_bd {f c st p : Int} (h1 : -10000 ≤ f) (h2 : f ≤ 10000) (h3 : 0 ≤ c) (h4 : c ≤ 5) (h5 : 1 ≤ st) (h6 : st ≤ 1000) (h7 : -10000 ≤ p) (h8 : p ≤ 10000) : (0 ≤ c * st ∧ c * st ≤ 5000) ∧ -20000 ≤ f + c * st - p ∧ f + c * st - p ≤ 25000 := by
  have h9 := Int.mul_le_mul h4 h6 (by omega) (by omega)
  have h10 := Int.mul_nonneg h3 (show 0 ≤ st by omega)
  omega
theorem w64 {x : Int} (h0 : -9223372036854775808 ≤ x) (h1 : x ≤ 9223372036854775807) : wrap64 x = x := by
  unfold wrap64; omega
theorem ax_near {f c q st : Int} (h : 0 ≤ st) : (if (if q < f + c * st then f + c * st - q else 0) < -(f + c * st - q + st) then -(f + c * st - q + st) else if q < f + c * st then f + c * st - q else 0) = axN (f + c * st - q) st := by
  unfold axN
  generalize f + c * st = x
  by_cases h1 : q < x
  · rw [if_pos h1, if_neg (by omega), if_pos (by omega)]
  · rw [if_neg h1, if_neg (show ¬ 0 < x - q by omega)]
    by_cases h2 : x - q + st < 0
    · rw [if_pos (by omega), if_pos h2]
    · rw [if_neg (by omega), if_neg h2]
theorem ax_far {f c q st : Int} : (if -(f + c * st - q) < f + c * st - q + st then f + c * st - q + st else -(f + c * st - q)) = axF (f + c * st - q) st := rfl
set_option maxHeartbeats 1000000 in
set_option maxRecDepth 100000 in
theorem distances_any (g : Gri) (c q : T3) (w : World) (hg : griE g = 0) (hc : celB g c = true) (hq : plc q = true) :
    Calls Tryz.prog 143 #[.agg #[.int .i64 g.f.x, .int .i64 g.f.y, .int .i64 g.f.z, .int .i64 g.st, .int .i64 g.c.x, .int .i64 g.c.y, .int .i64 g.c.z], .agg #[.int .i64 c.x, .int .i64 c.y, .int .i64 c.z], .agg #[.int .i64 q.x, .int .i64 q.y, .int .i64 q.z]] w
      fun e' w' => e' = .returned (.agg #[.int .i64 (dist g c q).1, .int .i64 (dist g c q).2]) ∧ Below w.heap.size w w' := by
  obtain ⟨hf, hst, hcn⟩ := griE_zero hg
  have hcc := celB_iff.1 hc
  have hff := plc_iff.1 hf
  have hqq := plc_iff.1 hq
  have hnn := cnt_iff.1 hcn
  unfold dist nea faa
  obtain ⟨⟨fx, fy, fz⟩, st, ⟨nx, ny, nz⟩⟩ := g
  obtain ⟨cx, cy, cz⟩ := c
  obtain ⟨qx, qy, qz⟩ := q
  simp only at hst hcc hff hqq hnn ⊢
  clear hg hc hq hf hcn
  obtain ⟨A1, hA1⟩ : ∃ A, A = axN (fx + cx * st - qx) st := ⟨_, rfl⟩
  obtain ⟨A2, hA2⟩ : ∃ A, A = axN (fy + cy * st - qy) st := ⟨_, rfl⟩
  obtain ⟨A3, hA3⟩ : ∃ A, A = axN (fz + cz * st - qz) st := ⟨_, rfl⟩
  obtain ⟨F1, hF1⟩ : ∃ A, A = axF (fx + cx * st - qx) st := ⟨_, rfl⟩
  obtain ⟨F2, hF2⟩ : ∃ A, A = axF (fy + cy * st - qy) st := ⟨_, rfl⟩
  obtain ⟨F3, hF3⟩ : ∃ A, A = axF (fz + cz * st - qz) st := ⟨_, rfl⟩
  have HA1 := Lib.hid hA1
  have HA2 := Lib.hid hA2
  have HA3 := Lib.hid hA3
  have HF1 := Lib.hid hF1
  have HF2 := Lib.hid hF2
  have HF3 := Lib.hid hF3
  rw [← hA1, ← hA2, ← hA3, ← hF1, ← hF2, ← hF3]
  have b1 := coord_bd (f := fx) (c := cx) (st := st) (p := qx) (by omega) (by omega) (by omega) (by omega) (by omega) (by omega) (by omega) (by omega)
  have b2 := coord_bd (f := fy) (c := cy) (st := st) (p := qy) (by omega) (by omega) (by omega) (by omega) (by omega) (by omega) (by omega) (by omega)
  have b3 := coord_bd (f := fz) (c := cz) (st := st) (p := qz) (by omega) (by omega) (by omega) (by omega) (by omega) (by omega) (by omega) (by omega)
  have a1 := axN_bd b1.2.1 b1.2.2 hst.1 hst.2
  have a2 := axN_bd b2.2.1 b2.2.2 hst.1 hst.2
  have a3 := axN_bd b3.2.1 b3.2.2 hst.1 hst.2
  have f1 := axF_bd b1.2.1 b1.2.2 hst.1 hst.2
  have f2 := axF_bd b2.2.1 b2.2.2 hst.1 hst.2
  have f3 := axF_bd b3.2.1 b3.2.2 hst.1 hst.2
  rw [← hA1] at a1
  rw [← hA2] at a2
  rw [← hA3] at a3
  rw [← hF1] at f1
  rw [← hF2] at f2
  rw [← hF3] at f3
  clear hA1 hA2 hA3 hF1 hF2 hF3
  have sa1 := sq_bd a1.1 (by omega)
  have sa2 := sq_bd a2.1 (by omega)
  have sa3 := sq_bd a3.1 (by omega)
  have sf1 := sq_bd f1.1 f1.2
  have sf2 := sq_bd f2.1 f2.2
  have sf3 := sq_bd f3.1 f3.2
  obtain ⟨S, hS⟩ : ∃ S, S = A1 * A1 + A2 * A2 + A3 * A3 := ⟨_, rfl⟩
  obtain ⟨T, hT⟩ : ∃ T, T = F1 * F1 + F2 * F2 + F3 * F3 := ⟨_, rfl⟩
  rw [← hS, ← hT]
  have hsn0 : 0 ≤ S := by omega
  have hsn1 : S ≤ 2028000000 := by omega
  have hsf0 : 0 ≤ T := by omega
  have hsf1 : T ≤ 2028000000 := by omega
  have HS := Lib.hid hS
  have HT := Lib.hid hT
  clear hS hT
  have hr := isq_spec hsf0 (by omega)
  have hr0 : isq T ≤ 2097151 := by have := rt_bd T 21 0; have e : (2 : Int) ^ 21 = 2097152 := by decide
                                   unfold isq; omega
  have HRF := Lib.hid (fun w' => root_any T w' hsf0 (by omega))
  have HRN := Lib.hid (fun w' => root_any S w' hsn0 (by omega))
  have hup : isqUp T = if isq T * isq T < T then isq T + 1 else isq T := rfl
  rw [hup]
  clear hup
  obtain ⟨R, hR⟩ : ∃ R, R = isq T := ⟨_, rfl⟩
  rw [← hR] at HRF hr hr0 ⊢
  clear hR
  obtain ⟨R2, hR2⟩ : ∃ R, R = isq S := ⟨_, rfl⟩
  rw [← hR2] at HRN ⊢
  clear hR2
  have hrr : R * R ≤ 9000000000 := by omega
  have hrr0 := mul_self_nonneg' R
  obtain ⟨U, hU⟩ : ∃ U, U = if R * R < T then R + 1 else R := ⟨_, rfl⟩
  rw [← hU]
  have HU := Lib.hid hU
  clear hU
  go_enter Tryz.func143, Tryz.ntmps143
  go_wp2
  generalize hW : World.alloc _ _ = w5
  have hb5 : Below w.heap.size w w5 := by rw [← hW]; (repeat' (first | (with_reducible exact Below.refl _ _) | (with_reducible assumption) | (with_reducible refine Below.drewN ?_ _) | (with_reducible refine Below.alloc ?_ ?_ _) | (with_reducible refine Below.drew ?_) | (with_reducible refine Below.setCell ?_ ?_ _) | (with_reducible refine Below.step (by assumption) ?_ ?_) | (with_reducible exact And.left (by assumption)) | go_size))
  have q0 : w5.cell? ⟨w.heap.size, 0, none⟩ = some (.int .i64 fx) := by { rw [← hW]; clear hW; go_simp }
  have q1 : w5.cell? ⟨w.heap.size, 1, none⟩ = some (.int .i64 fy) := by { rw [← hW]; clear hW; go_simp }
  have q2 : w5.cell? ⟨w.heap.size, 2, none⟩ = some (.int .i64 fz) := by { rw [← hW]; clear hW; go_simp }
  have q3 : w5.cell? ⟨w.heap.size, 3, none⟩ = some (.int .i64 st) := by { rw [← hW]; clear hW; go_simp }
  have p0 : w5.cell? ⟨w.heap.size + 1 + 1, 0, none⟩ = some (.int .i64 qx) := by { rw [← hW]; clear hW; go_simp }
  have p1 : w5.cell? ⟨w.heap.size + 1 + 1, 1, none⟩ = some (.int .i64 qy) := by { rw [← hW]; clear hW; go_simp }
  have p2 : w5.cell? ⟨w.heap.size + 1 + 1, 2, none⟩ = some (.int .i64 qz) := by { rw [← hW]; clear hW; go_simp }
  have r0 : w5.cell? ⟨w.heap.size + 1 + 1 + 1, 0, none⟩ = some (.int .i64 0) := by { rw [← hW]; clear hW; go_simp }
  have r1 : w5.cell? ⟨w.heap.size + 1 + 1 + 1, 1, none⟩ = some (.int .i64 0) := by { rw [← hW]; clear hW; go_simp }
  have g0 : w5.frozen? ⟨w.heap.size + 1 + 1 + 1, 0, none⟩ = false := by { rw [← hW]; clear hW; go_simp }
  have g1 : w5.frozen? ⟨w.heap.size + 1 + 1 + 1, 1, none⟩ = false := by { rw [← hW]; clear hW; go_simp }
  have HB5 := Lib.hid hb5
  clear hW hb5
  go_loopw [7, 8, 17] (fun a b i wr => ∃ m, wr = w5.drewN m ∧ ((i = .int .i64 0 ∧ a = .int .i64 0 ∧ b = .int .i64 0) ∨ (i = .int .i64 1 ∧ a = .int .i64 (A1 * A1) ∧ b = .int .i64 (F1 * F1)) ∨ (i = .int .i64 2 ∧ a = .int .i64 (A1 * A1 + A2 * A2) ∧ b = .int .i64 (F1 * F1 + F2 * F2)) ∨ (i = .int .i64 3 ∧ a = .int .i64 S ∧ b = .int .i64 T))) (fun _ _ i _ => 3 - (intOf i).toNat)
  case atStart => exact ⟨0, rfl, .inl ⟨rfl, rfl, rfl⟩⟩
  case round =>
    obtain ⟨m, rfl, hrel⟩ := hrel
    rcases hrel with ⟨rfl, rfl, rfl⟩ | ⟨rfl, rfl, rfl⟩ | ⟨rfl, rfl, rfl⟩ | ⟨rfl, rfl, rfl⟩
    · skip
      have hw1 : IntKind.i64.wrap (cx * st) = cx * st := by rw [IntKind.wrap_i64]; omega
      have hw2 : IntKind.i64.wrap (fx + cx * st) = fx + cx * st := by rw [IntKind.wrap_i64]; omega
      have hw3 : IntKind.i64.wrap (fx + cx * st - qx) = fx + cx * st - qx := by rw [IntKind.wrap_i64]; omega
      go_wp2_with fail
      go_quiet (fail)
      clear hw1 hw2 hw3
      go_wp2
      go_roundw
      case rel => exact ⟨_, rfl, .inr (.inl ⟨rfl, by rw [ax_near (by omega), ← HA1.out, w64 (x := A1 * A1) (by omega) (by omega), w64 (by omega) (by omega)], by rw [ax_far, ← HF1.out, w64 (x := F1 * F1) (by omega) (by omega), w64 (by omega) (by omega)]⟩)⟩
      case measure => simp [intOf]
    · skip
      have hw1 : IntKind.i64.wrap (cy * st) = cy * st := by rw [IntKind.wrap_i64]; omega
      have hw2 : IntKind.i64.wrap (fy + cy * st) = fy + cy * st := by rw [IntKind.wrap_i64]; omega
      have hw3 : IntKind.i64.wrap (fy + cy * st - qy) = fy + cy * st - qy := by rw [IntKind.wrap_i64]; omega
      go_wp2_with fail
      go_quiet (fail)
      clear hw1 hw2 hw3
      go_wp2
      go_roundw
      case rel => exact ⟨_, rfl, .inr (.inr (.inl ⟨rfl, by rw [ax_near (by omega), ← HA2.out, w64 (x := A2 * A2) (by omega) (by omega), w64 (by omega) (by omega)], by rw [ax_far, ← HF2.out, w64 (x := F2 * F2) (by omega) (by omega), w64 (by omega) (by omega)]⟩))⟩
      case measure => simp [intOf]
    · skip
      have hw1 : IntKind.i64.wrap (cz * st) = cz * st := by rw [IntKind.wrap_i64]; omega
      have hw2 : IntKind.i64.wrap (fz + cz * st) = fz + cz * st := by rw [IntKind.wrap_i64]; omega
      have hw3 : IntKind.i64.wrap (fz + cz * st - qz) = fz + cz * st - qz := by rw [IntKind.wrap_i64]; omega
      go_wp2_with fail
      go_quiet (fail)
      clear hw1 hw2 hw3
      go_wp2
      go_roundw
      case rel => exact ⟨_, rfl, .inr (.inr (.inr ⟨rfl, by rw [ax_near (by omega), ← HA3.out, w64 (x := A3 * A3) (by omega) (by omega), w64 (by omega) (by omega), HS.out], by rw [ax_far, ← HF3.out, w64 (x := F3 * F3) (by omega) (by omega), w64 (by omega) (by omega), HT.out]⟩))⟩
      case measure => simp [intOf]
    · clear sa1 sa2 sa3 sf1 sf2 sf3 a1 a2 a3 f1 f2 f3
      by_cases hlt : R * R < T
      all_goals
        go_wp2_with fail
        refine (HRF.out _).mono ?_
        rintro e w' ⟨rfl, rfl⟩
        go_wp2_with fail
        refine (HRN.out _).mono ?_
        rintro e w' ⟨rfl, rfl⟩
        go_wp2
        generalize hW : World.setCell _ _ _ = w9
        have c0 : w9.cell? ⟨w.heap.size + 1 + 1 + 1, 0, none⟩ = some (.int .i64 R2) := by { rw [← hW]; clear hW; go_simp }
        have hb9 : Below w.heap.size w w9 := by { rw [← hW]; have := HB5.out; (repeat' (first | (with_reducible exact Below.refl _ _) | (with_reducible assumption) | (with_reducible refine Below.drewN ?_ _) | (with_reducible refine Below.alloc ?_ ?_ _) | (with_reducible refine Below.drew ?_) | (with_reducible refine Below.setCell ?_ ?_ _) | (with_reducible refine Below.step (by assumption) ?_ ?_) | (with_reducible exact And.left (by assumption)) | go_size)) }
      · have c1 : w9.cell? ⟨w.heap.size + 1 + 1 + 1, 1, none⟩ = some (.int .i64 (R + 1)) := by { rw [← hW]; clear hW; go_simp }
        clear hW
        exact bodyPost_ret (v := .agg #[.int .i64 R2, .int .i64 (R + 1)]) (by simp [results, Tryz.results143, go_sem, c0, c1]) rfl ⟨by rw [HU.out, if_pos hlt], hb9⟩
      · have c1 : w9.cell? ⟨w.heap.size + 1 + 1 + 1, 1, none⟩ = some (.int .i64 R) := by { rw [← hW]; clear hW; go_simp }
        clear hW
        exact bodyPost_ret (v := .agg #[.int .i64 R2, .int .i64 R]) (by simp [results, Tryz.results143, go_sem, c0, c1]) rfl ⟨by rw [HU.out, if_neg (by omega)], hb9⟩
end Go.Proofs.YtkphbibonagkfaaGreat
