import Derived.Test.YtkphbibonagkfaaGreatRGrid
/- The reference of distances. -/
namespace Go.Proofs.YtkphbibonagkfaaGreat
open Go.RowKit
set_option linter.unusedVariables false

theorem axF_max {L st : Int} (h : 1 ≤ st) : (if sz L < sz (L + st) then sz (L + st) else sz L) = axF L st := by
  unfold sz axF
  split <;> split <;> (try split) <;> omega
set_option maxHeartbeats 1000000 in
set_option maxRecDepth 100000 in
theorem rDistance_any (g : Gri) (c q : T3) (w : World) (hg : griE g = 0) (hc : celB g c = true) (hq : plc q = true) :
    Calls Tryz.prog 96 #[.agg #[.int .i64 g.f.x, .int .i64 g.f.y, .int .i64 g.f.z, .int .i64 g.st, .int .i64 g.c.x, .int .i64 g.c.y, .int .i64 g.c.z], .agg #[.int .i64 c.x, .int .i64 c.y, .int .i64 c.z], .agg #[.int .i64 q.x, .int .i64 q.y, .int .i64 q.z]] w
      fun e' w' => e' = .returned (.agg #[.int .i64 (dist g c q).1, .int .i64 (dist g c q).2]) ∧ Below w.heap.size w w' := by
  obtain ⟨hf, hst, hcn⟩ := griE_zero hg
  have hcc := celB_iff.1 hc
  have hff := plc_iff.1 hf
  have hqq := plc_iff.1 hq
  have hnn := cnt_iff.1 hcn
  unfold dist nea faa
  obtain ⟨⟨fx, fy, fz⟩, st, ⟨nx, ny, nz⟩⟩ := g
  obtain ⟨cx, cy, cz⟩ := c
  obtain ⟨qx, qy, qz⟩ := q
  simp only at hst hcc hff hqq hnn ⊢
  clear hg hc hq hf hcn
  have b1 := coord_bd (f := fx) (c := cx) (st := st) (p := qx) (by omega) (by omega) (by omega) (by omega) (by omega) (by omega) (by omega) (by omega)
  have b2 := coord_bd (f := fy) (c := cy) (st := st) (p := qy) (by omega) (by omega) (by omega) (by omega) (by omega) (by omega) (by omega) (by omega)
  have b3 := coord_bd (f := fz) (c := cz) (st := st) (p := qz) (by omega) (by omega) (by omega) (by omega) (by omega) (by omega) (by omega) (by omega)
  obtain ⟨L1, hL1⟩ : ∃ A, A = fx + cx * st - qx := ⟨_, rfl⟩
  obtain ⟨L2, hL2⟩ : ∃ A, A = fy + cy * st - qy := ⟨_, rfl⟩
  obtain ⟨L3, hL3⟩ : ∃ A, A = fz + cz * st - qz := ⟨_, rfl⟩
  rw [← hL1] at b1 ⊢
  rw [← hL2] at b2 ⊢
  rw [← hL3] at b3 ⊢
  have HL1 := Lib.hid hL1
  have HL2 := Lib.hid hL2
  have HL3 := Lib.hid hL3
  have a1 := axN_bd b1.2.1 b1.2.2 hst.1 hst.2
  have a2 := axN_bd b2.2.1 b2.2.2 hst.1 hst.2
  have a3 := axN_bd b3.2.1 b3.2.2 hst.1 hst.2
  have f1 := axF_bd b1.2.1 b1.2.2 hst.1 hst.2
  have f2 := axF_bd b2.2.1 b2.2.2 hst.1 hst.2
  have f3 := axF_bd b3.2.1 b3.2.2 hst.1 hst.2
  have HM1 := Lib.hid (axF_max (L := L1) hst.1)
  have HM2 := Lib.hid (axF_max (L := L2) hst.1)
  have HM3 := Lib.hid (axF_max (L := L3) hst.1)
  have HN1 := Lib.hid (show axN L1 st = if 0 < L1 then L1 else if L1 + st < 0 then -(L1 + st) else 0 by rfl)
  have HN2 := Lib.hid (show axN L2 st = if 0 < L2 then L2 else if L2 + st < 0 then -(L2 + st) else 0 by rfl)
  have HN3 := Lib.hid (show axN L3 st = if 0 < L3 then L3 else if L3 + st < 0 then -(L3 + st) else 0 by rfl)
  generalize axN L1 st = A1 at *
  generalize axN L2 st = A2 at *
  generalize axN L3 st = A3 at *
  generalize axF L1 st = F1 at *
  generalize axF L2 st = F2 at *
  generalize axF L3 st = F3 at *
  clear hL1 hL2 hL3
  have sa1 := sq_bd a1.1 (by omega)
  have sa2 := sq_bd a2.1 (by omega)
  have sa3 := sq_bd a3.1 (by omega)
  have sf1 := sq_bd f1.1 f1.2
  have sf2 := sq_bd f2.1 f2.2
  have sf3 := sq_bd f3.1 f3.2
  obtain ⟨S, hS⟩ : ∃ S, S = A1 * A1 + A2 * A2 + A3 * A3 := ⟨_, rfl⟩
  obtain ⟨T, hT⟩ : ∃ T, T = F1 * F1 + F2 * F2 + F3 * F3 := ⟨_, rfl⟩
  rw [← hS, ← hT]
  have hsn0 : 0 ≤ S := by omega
  have hsn1 : S ≤ 2028000000 := by omega
  have hsf0 : 0 ≤ T := by omega
  have hsf1 : T ≤ 2028000000 := by omega
  have HS := Lib.hid hS
  have HT := Lib.hid hT
  clear hS hT
  have HRF := Lib.hid (fun w' => bRootUp_any T w' hsf0 (by omega))
  have HRN := Lib.hid (fun w' => bRoot_any S w' hsn0 (by omega))
  generalize isqUp T = R at *
  generalize isq S = R2 at *
  go_enter Tryz.func96, Tryz.ntmps96
  go_wp2
  generalize hW : World.alloc _ _ = w5
  have hb5 : Below w.heap.size w w5 := by rw [← hW]; (repeat' (first | (with_reducible exact Below.refl _ _) | (with_reducible assumption) | (with_reducible refine Below.drewN ?_ _) | (with_reducible refine Below.alloc ?_ ?_ _) | (with_reducible refine Below.drew ?_) | (with_reducible refine Below.setCell ?_ ?_ _) | (with_reducible refine Below.step (by assumption) ?_ ?_) | (with_reducible exact And.left (by assumption)) | go_size))
  have q0 : w5.cell? ⟨w.heap.size, 0, none⟩ = some (.int .i64 fx) := by { rw [← hW]; clear hW; go_simp }
  have q1 : w5.cell? ⟨w.heap.size, 1, none⟩ = some (.int .i64 fy) := by { rw [← hW]; clear hW; go_simp }
  have q2 : w5.cell? ⟨w.heap.size, 2, none⟩ = some (.int .i64 fz) := by { rw [← hW]; clear hW; go_simp }
  have q3 : w5.cell? ⟨w.heap.size, 3, none⟩ = some (.int .i64 st) := by { rw [← hW]; clear hW; go_simp }
  have d0 : w5.cell? ⟨w.heap.size + 1, 0, none⟩ = some (.int .i64 cx) := by { rw [← hW]; clear hW; go_simp }
  have d1 : w5.cell? ⟨w.heap.size + 1, 1, none⟩ = some (.int .i64 cy) := by { rw [← hW]; clear hW; go_simp }
  have d2 : w5.cell? ⟨w.heap.size + 1, 2, none⟩ = some (.int .i64 cz) := by { rw [← hW]; clear hW; go_simp }
  have p0 : w5.cell? ⟨w.heap.size + 1 + 1, 0, none⟩ = some (.int .i64 qx) := by { rw [← hW]; clear hW; go_simp }
  have p1 : w5.cell? ⟨w.heap.size + 1 + 1, 1, none⟩ = some (.int .i64 qy) := by { rw [← hW]; clear hW; go_simp }
  have p2 : w5.cell? ⟨w.heap.size + 1 + 1, 2, none⟩ = some (.int .i64 qz) := by { rw [← hW]; clear hW; go_simp }
  have r0 : w5.cell? ⟨w.heap.size + 1 + 1 + 1, 0, none⟩ = some (.int .i64 0) := by { rw [← hW]; clear hW; go_simp }
  have r1 : w5.cell? ⟨w.heap.size + 1 + 1 + 1, 1, none⟩ = some (.int .i64 0) := by { rw [← hW]; clear hW; go_simp }
  have g0 : w5.frozen? ⟨w.heap.size + 1 + 1 + 1, 0, none⟩ = false := by { rw [← hW]; clear hW; go_simp }
  have g1 : w5.frozen? ⟨w.heap.size + 1 + 1 + 1, 1, none⟩ = false := by { rw [← hW]; clear hW; go_simp }
  have l3 : w.heap.size + 1 + 1 + 1 < w5.heap.size := by { rw [← hW]; clear hW; simp }
  have HB5 := Lib.hid hb5
  clear hW hb5
  go_loopw [7, 8, 9] (fun a b i wr => ∃ m, wr = w5.drewN m ∧ ((i = .int .i64 0 ∧ a = .int .i64 0 ∧ b = .int .i64 0) ∨ (i = .int .i64 1 ∧ a = .int .i64 (A1 * A1) ∧ b = .int .i64 (F1 * F1)) ∨ (i = .int .i64 2 ∧ a = .int .i64 (A1 * A1 + A2 * A2) ∧ b = .int .i64 (F1 * F1 + F2 * F2)) ∨ (i = .int .i64 3 ∧ a = .int .i64 S ∧ b = .int .i64 T))) (fun _ _ i _ => 3 - (intOf i).toNat)
  case atStart => exact ⟨0, rfl, .inl ⟨rfl, rfl, rfl⟩⟩
  case round =>
    obtain ⟨m, rfl, hrel⟩ := hrel
    rcases hrel with ⟨rfl, rfl, rfl⟩ | ⟨rfl, rfl, rfl⟩ | ⟨rfl, rfl, rfl⟩ | ⟨rfl, rfl, rfl⟩
    · skip
      have hw1 : IntKind.i64.wrap (cx * st) = cx * st := by rw [IntKind.wrap_i64]; omega
      have hw2 : IntKind.i64.wrap (fx + cx * st) = fx + cx * st := by rw [IntKind.wrap_i64]; omega
      have hw3 : IntKind.i64.wrap (fx + cx * st - qx) = L1 := by rw [IntKind.wrap_i64, HL1.out]; omega
      have hw4 : IntKind.i64.wrap (L1 + st) = L1 + st := by rw [IntKind.wrap_i64]; omega
      have HZ1 := Lib.hid (fun w' => bsize_any L1 w' (by omega) (by omega))
      have HZ2 := Lib.hid (fun w' => bsize_any (L1 + st) w' (by omega) (by omega))
      go_wp2_with fail
      go_quiet (fail)
      clear hw1 hw2 hw3
      by_cases h1 : 0 < L1
      · have e1 : A1 = L1 := HN1.out.trans (if_pos h1)
        go_wp2_with fail
        refine (HZ1.out _).mono ?_
        rintro e w' ⟨rfl, rfl⟩
        go_wp2_with fail
        refine (HZ2.out _).mono ?_
        rintro e w' ⟨rfl, rfl⟩
        have hm := HM1.out
        go_wp2
        clear hm
        go_roundw
        case rel =>
          refine ⟨_, rfl, .inr (.inl ⟨rfl, ?_, ?_⟩)⟩
          · try rw [HS.out]
            rw [← e1, w64 (x := A1 * A1) (by omega) (by omega), w64 (by omega) (by omega)]
          · first | rfl | rw [HT.out]
        case measure => simp [intOf]
      · by_cases h2 : L1 + st < 0
        · have e1 : A1 = -(L1 + st) := HN1.out.trans ((if_neg h1).trans (if_pos h2))
          go_wp2_with fail
          refine (HZ1.out _).mono ?_
          rintro e w' ⟨rfl, rfl⟩
          go_wp2_with fail
          refine (HZ2.out _).mono ?_
          rintro e w' ⟨rfl, rfl⟩
          have hm := HM1.out
          go_wp2
          clear hm
          go_roundw
          case rel =>
            refine ⟨_, rfl, .inr (.inl ⟨rfl, ?_, ?_⟩)⟩
            · try rw [HS.out]
              rw [← e1, w64 (x := A1 * A1) (by omega) (by omega), w64 (by omega) (by omega)]
            · first | rfl | rw [HT.out]
          case measure => simp [intOf]
        · have e1 : A1 = 0 := HN1.out.trans ((if_neg h1).trans (if_neg h2))
          go_wp2_with fail
          refine (HZ1.out _).mono ?_
          rintro e w' ⟨rfl, rfl⟩
          go_wp2_with fail
          refine (HZ2.out _).mono ?_
          rintro e w' ⟨rfl, rfl⟩
          have hm := HM1.out
          go_wp2
          clear hm
          go_roundw
          case rel =>
            refine ⟨_, rfl, .inr (.inl ⟨rfl, ?_, ?_⟩)⟩
            · try rw [HS.out]
              rw [e1]; simp
            · first | rfl | rw [HT.out]
          case measure => simp [intOf]
    · skip
      have hw1 : IntKind.i64.wrap (cy * st) = cy * st := by rw [IntKind.wrap_i64]; omega
      have hw2 : IntKind.i64.wrap (fy + cy * st) = fy + cy * st := by rw [IntKind.wrap_i64]; omega
      have hw3 : IntKind.i64.wrap (fy + cy * st - qy) = L2 := by rw [IntKind.wrap_i64, HL2.out]; omega
      have hw4 : IntKind.i64.wrap (L2 + st) = L2 + st := by rw [IntKind.wrap_i64]; omega
      have HZ1 := Lib.hid (fun w' => bsize_any L2 w' (by omega) (by omega))
      have HZ2 := Lib.hid (fun w' => bsize_any (L2 + st) w' (by omega) (by omega))
      go_wp2_with fail
      go_quiet (fail)
      clear hw1 hw2 hw3
      by_cases h1 : 0 < L2
      · have e1 : A2 = L2 := HN2.out.trans (if_pos h1)
        go_wp2_with fail
        refine (HZ1.out _).mono ?_
        rintro e w' ⟨rfl, rfl⟩
        go_wp2_with fail
        refine (HZ2.out _).mono ?_
        rintro e w' ⟨rfl, rfl⟩
        have hm := HM2.out
        go_wp2
        clear hm
        go_roundw
        case rel =>
          refine ⟨_, rfl, .inr (.inr (.inl ⟨rfl, ?_, ?_⟩))⟩
          · try rw [HS.out]
            rw [← e1, w64 (x := A2 * A2) (by omega) (by omega), w64 (by omega) (by omega)]
          · first | rfl | rw [HT.out]
        case measure => simp [intOf]
      · by_cases h2 : L2 + st < 0
        · have e1 : A2 = -(L2 + st) := HN2.out.trans ((if_neg h1).trans (if_pos h2))
          go_wp2_with fail
          refine (HZ1.out _).mono ?_
          rintro e w' ⟨rfl, rfl⟩
          go_wp2_with fail
          refine (HZ2.out _).mono ?_
          rintro e w' ⟨rfl, rfl⟩
          have hm := HM2.out
          go_wp2
          clear hm
          go_roundw
          case rel =>
            refine ⟨_, rfl, .inr (.inr (.inl ⟨rfl, ?_, ?_⟩))⟩
            · try rw [HS.out]
              rw [← e1, w64 (x := A2 * A2) (by omega) (by omega), w64 (by omega) (by omega)]
            · first | rfl | rw [HT.out]
          case measure => simp [intOf]
        · have e1 : A2 = 0 := HN2.out.trans ((if_neg h1).trans (if_neg h2))
          go_wp2_with fail
          refine (HZ1.out _).mono ?_
          rintro e w' ⟨rfl, rfl⟩
          go_wp2_with fail
          refine (HZ2.out _).mono ?_
          rintro e w' ⟨rfl, rfl⟩
          have hm := HM2.out
          go_wp2
          clear hm
          go_roundw
          case rel =>
            refine ⟨_, rfl, .inr (.inr (.inl ⟨rfl, ?_, ?_⟩))⟩
            · try rw [HS.out]
              rw [e1]; simp
            · first | rfl | rw [HT.out]
          case measure => simp [intOf]
    · skip
      have hw1 : IntKind.i64.wrap (cz * st) = cz * st := by rw [IntKind.wrap_i64]; omega
      have hw2 : IntKind.i64.wrap (fz + cz * st) = fz + cz * st := by rw [IntKind.wrap_i64]; omega
      have hw3 : IntKind.i64.wrap (fz + cz * st - qz) = L3 := by rw [IntKind.wrap_i64, HL3.out]; omega
      have hw4 : IntKind.i64.wrap (L3 + st) = L3 + st := by rw [IntKind.wrap_i64]; omega
      have HZ1 := Lib.hid (fun w' => bsize_any L3 w' (by omega) (by omega))
      have HZ2 := Lib.hid (fun w' => bsize_any (L3 + st) w' (by omega) (by omega))
      go_wp2_with fail
      go_quiet (fail)
      clear hw1 hw2 hw3
      by_cases h1 : 0 < L3
      · have e1 : A3 = L3 := HN3.out.trans (if_pos h1)
        go_wp2_with fail
        refine (HZ1.out _).mono ?_
        rintro e w' ⟨rfl, rfl⟩
        go_wp2_with fail
        refine (HZ2.out _).mono ?_
        rintro e w' ⟨rfl, rfl⟩
        have hm := HM3.out
        go_wp2
        clear hm
        go_roundw
        case rel =>
          refine ⟨_, rfl, .inr (.inr (.inr ⟨rfl, ?_, ?_⟩))⟩
          · try rw [HS.out]
            rw [← e1, w64 (x := A3 * A3) (by omega) (by omega), w64 (by omega) (by omega)]
          · first | rfl | rw [HT.out]
        case measure => simp [intOf]
      · by_cases h2 : L3 + st < 0
        · have e1 : A3 = -(L3 + st) := HN3.out.trans ((if_neg h1).trans (if_pos h2))
          go_wp2_with fail
          refine (HZ1.out _).mono ?_
          rintro e w' ⟨rfl, rfl⟩
          go_wp2_with fail
          refine (HZ2.out _).mono ?_
          rintro e w' ⟨rfl, rfl⟩
          have hm := HM3.out
          go_wp2
          clear hm
          go_roundw
          case rel =>
            refine ⟨_, rfl, .inr (.inr (.inr ⟨rfl, ?_, ?_⟩))⟩
            · try rw [HS.out]
              rw [← e1, w64 (x := A3 * A3) (by omega) (by omega), w64 (by omega) (by omega)]
            · first | rfl | rw [HT.out]
          case measure => simp [intOf]
        · have e1 : A3 = 0 := HN3.out.trans ((if_neg h1).trans (if_neg h2))
          go_wp2_with fail
          refine (HZ1.out _).mono ?_
          rintro e w' ⟨rfl, rfl⟩
          go_wp2_with fail
          refine (HZ2.out _).mono ?_
          rintro e w' ⟨rfl, rfl⟩
          have hm := HM3.out
          go_wp2
          clear hm
          go_roundw
          case rel =>
            refine ⟨_, rfl, .inr (.inr (.inr ⟨rfl, ?_, ?_⟩))⟩
            · try rw [HS.out]
              rw [e1]; simp
            · first | rfl | rw [HT.out]
          case measure => simp [intOf]
    · go_wp2_with fail
      refine (HRN.out _).mono ?_
      rintro e w' ⟨rfl, rfl⟩
      go_wp2_with fail
      refine (HRF.out _).mono ?_
      rintro e w' ⟨rfl, rfl⟩
      go_wp2
      generalize hW : World.setCell _ _ _ = w9
      have c0 : w9.cell? ⟨w.heap.size + 1 + 1 + 1, 0, none⟩ = some (.int .i64 R2) := by { rw [← hW]; clear hW; go_simp }
      have hb9 : Below w.heap.size w w9 := by { rw [← hW]; have := HB5.out; (repeat' (first | (with_reducible exact Below.refl _ _) | (with_reducible assumption) | (with_reducible refine Below.drewN ?_ _) | (with_reducible refine Below.alloc ?_ ?_ _) | (with_reducible refine Below.drew ?_) | (with_reducible refine Below.setCell ?_ ?_ _) | (with_reducible refine Below.step (by assumption) ?_ ?_) | (with_reducible exact And.left (by assumption)) | go_size)) }
      have c1 : w9.cell? ⟨w.heap.size + 1 + 1 + 1, 1, none⟩ = some (.int .i64 R) := by { rw [← hW]; clear hW; go_simp }
      clear hW
      exact bodyPost_ret (v := .agg #[.int .i64 R2, .int .i64 R]) (by simp [results, Tryz.results96, go_sem, c0, c1]) rfl ⟨rfl, hb9⟩
end Go.Proofs.YtkphbibonagkfaaGreat
