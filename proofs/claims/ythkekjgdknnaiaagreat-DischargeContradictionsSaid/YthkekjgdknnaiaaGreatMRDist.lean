import Derived.Test.YthkekjgdknnaiaaGreatDAns
import Derived.Test.YthkekjgdknnaiaaGreatMDSub
import Derived.Test.YthkekjgdknnaiaaGreatRGrid
/- The reference of distances. -/
namespace Go.Proofs.YthkekjgdknnaiaaGreat
open Go.RowKit
set_option linter.unusedVariables false

theorem axF_max {L st : Int} (h : 1 ≤ st) : (if sz L < sz (L + st) then sz (L + st) else sz L) = axF L st := by
  unfold sz axF
  split <;> split <;> (try split) <;> omega
set_option maxHeartbeats 1000000 in
set_option maxRecDepth 100000 in
theorem rDistance_any (g : Gri) (c q : T3) (w : World) (hg : griE g = 0) (hc : celB g c = true) (hq : plc q = true) :
    Calls Tryz.prog 160 #[.agg #[.int .i64 g.f.x, .int .i64 g.f.y, .int .i64 g.f.z, .int .i64 g.st, .int .i64 g.c.x, .int .i64 g.c.y, .int .i64 g.c.z], .agg #[.int .i64 c.x, .int .i64 c.y, .int .i64 c.z], .agg #[.int .i64 q.x, .int .i64 q.y, .int .i64 q.z]] w
      fun e' w' => e' = .returned (.agg #[.int .i64 (dist g c q).1, .int .i64 (dist g c q).2]) ∧ Below w.heap.size w w' := by
  obtain ⟨hf, hst, hcn⟩ := griE_zero hg
  have hcc := celB_iff.1 hc
  have hff := plc_iff.1 hf
  have hqq := plc_iff.1 hq
  have hnn := cnt_iff.1 hcn
  unfold dist nea faa
  obtain ⟨⟨fx, fy, fz⟩, st, ⟨nx, ny, nz⟩⟩ := g
  obtain ⟨cx, cy, cz⟩ := c
  obtain ⟨qx, qy, qz⟩ := q
  simp only at hst hcc hff hqq hnn ⊢
  clear hg hc hq hf hcn
  have b1 := coord_bd (f := fx) (c := cx) (st := st) (p := qx) (by omega) (by omega) (by omega) (by omega) (by omega) (by omega) (by omega) (by omega)
  have b2 := coord_bd (f := fy) (c := cy) (st := st) (p := qy) (by omega) (by omega) (by omega) (by omega) (by omega) (by omega) (by omega) (by omega)
  have b3 := coord_bd (f := fz) (c := cz) (st := st) (p := qz) (by omega) (by omega) (by omega) (by omega) (by omega) (by omega) (by omega) (by omega)
  obtain ⟨L1, hL1⟩ : ∃ A, A = fx + cx * st - qx := ⟨_, rfl⟩
  obtain ⟨L2, hL2⟩ : ∃ A, A = fy + cy * st - qy := ⟨_, rfl⟩
  obtain ⟨L3, hL3⟩ : ∃ A, A = fz + cz * st - qz := ⟨_, rfl⟩
  rw [← hL1] at b1 ⊢
  rw [← hL2] at b2 ⊢
  rw [← hL3] at b3 ⊢
  have HL1 := Lib.hid hL1
  have HL2 := Lib.hid hL2
  have HL3 := Lib.hid hL3
  have a1 := axN_bd b1.2.1 b1.2.2 hst.1 hst.2
  have a2 := axN_bd b2.2.1 b2.2.2 hst.1 hst.2
  have a3 := axN_bd b3.2.1 b3.2.2 hst.1 hst.2
  have f1 := axF_bd b1.2.1 b1.2.2 hst.1 hst.2
  have f2 := axF_bd b2.2.1 b2.2.2 hst.1 hst.2
  have f3 := axF_bd b3.2.1 b3.2.2 hst.1 hst.2
  have HM1 := Lib.hid (axF_max (L := L1) hst.1)
  have HM2 := Lib.hid (axF_max (L := L2) hst.1)
  have HM3 := Lib.hid (axF_max (L := L3) hst.1)
  have HN1 := Lib.hid (show axN L1 st = if 0 < L1 then L1 else if L1 + st < 0 then -(L1 + st) else 0 by rfl)
  have HN2 := Lib.hid (show axN L2 st = if 0 < L2 then L2 else if L2 + st < 0 then -(L2 + st) else 0 by rfl)
  have HN3 := Lib.hid (show axN L3 st = if 0 < L3 then L3 else if L3 + st < 0 then -(L3 + st) else 0 by rfl)
  generalize axN L1 st = A1 at *
  generalize axN L2 st = A2 at *
  generalize axN L3 st = A3 at *
  generalize axF L1 st = F1 at *
  generalize axF L2 st = F2 at *
  generalize axF L3 st = F3 at *
  clear hL1 hL2 hL3
  have sa1 := sq_bd a1.1 (by omega)
  have sa2 := sq_bd a2.1 (by omega)
  have sa3 := sq_bd a3.1 (by omega)
  have sf1 := sq_bd f1.1 f1.2
  have sf2 := sq_bd f2.1 f2.2
  have sf3 := sq_bd f3.1 f3.2
  obtain ⟨S, hS⟩ : ∃ S, S = A1 * A1 + A2 * A2 + A3 * A3 := ⟨_, rfl⟩
  obtain ⟨T, hT⟩ : ∃ T, T = F1 * F1 + F2 * F2 + F3 * F3 := ⟨_, rfl⟩
  rw [← hS, ← hT]
  have hsn0 : 0 ≤ S := by omega
  have hsn1 : S ≤ 2028000000 := by omega
  have hsf0 : 0 ≤ T := by omega
  have hsf1 : T ≤ 2028000000 := by omega
  have HS := Lib.hid hS
  have HT := Lib.hid hT
  clear hS hT
  have HRF := Lib.hid (fun w' => bRootUp_any T w' hsf0 (by omega))
  have HRN := Lib.hid (fun w' => bRoot_any S w' hsn0 (by omega))
  generalize isqUp T = R at *
  generalize isq S = R2 at *
  go_enter Tryz.func160, Tryz.ntmps160
  go_wp2
  generalize hW : World.alloc _ _ = w5
  have hb5 : Below w.heap.size w w5 := by rw [← hW]; (repeat' (first | (with_reducible exact Below.refl _ _) | (with_reducible assumption) | (with_reducible refine Below.drewN ?_ _) | (with_reducible refine Below.alloc ?_ ?_ _) | (with_reducible refine Below.drew ?_) | (with_reducible refine Below.setCell ?_ ?_ _) | (with_reducible refine Below.step (by assumption) ?_ ?_) | (with_reducible exact And.left (by assumption)) | go_size))
  have q0 : w5.cell? ⟨w.heap.size, 0, none⟩ = some (.int .i64 fx) := by { rw [← hW]; clear hW; go_simp }
  have q1 : w5.cell? ⟨w.heap.size, 1, none⟩ = some (.int .i64 fy) := by { rw [← hW]; clear hW; go_simp }
  have q2 : w5.cell? ⟨w.heap.size, 2, none⟩ = some (.int .i64 fz) := by { rw [← hW]; clear hW; go_simp }
  have q3 : w5.cell? ⟨w.heap.size, 3, none⟩ = some (.int .i64 st) := by { rw [← hW]; clear hW; go_simp }
  have d0 : w5.cell? ⟨w.heap.size + 1, 0, none⟩ = some (.int .i64 cx) := by { rw [← hW]; clear hW; go_simp }
  have d1 : w5.cell? ⟨w.heap.size + 1, 1, none⟩ = some (.int .i64 cy) := by { rw [← hW]; clear hW; go_simp }
  have d2 : w5.cell? ⟨w.heap.size + 1, 2, none⟩ = some (.int .i64 cz) := by { rw [← hW]; clear hW; go_simp }
  have p0 : w5.cell? ⟨w.heap.size + 1 + 1, 0, none⟩ = some (.int .i64 qx) := by { rw [← hW]; clear hW; go_simp }
  have p1 : w5.cell? ⟨w.heap.size + 1 + 1, 1, none⟩ = some (.int .i64 qy) := by { rw [← hW]; clear hW; go_simp }
  have p2 : w5.cell? ⟨w.heap.size + 1 + 1, 2, none⟩ = some (.int .i64 qz) := by { rw [← hW]; clear hW; go_simp }
  have r0 : w5.cell? ⟨w.heap.size + 1 + 1 + 1, 0, none⟩ = some (.int .i64 0) := by { rw [← hW]; clear hW; go_simp }
  have r1 : w5.cell? ⟨w.heap.size + 1 + 1 + 1, 1, none⟩ = some (.int .i64 0) := by { rw [← hW]; clear hW; go_simp }
  have g0 : w5.frozen? ⟨w.heap.size + 1 + 1 + 1, 0, none⟩ = false := by { rw [← hW]; clear hW; go_simp }
  have g1 : w5.frozen? ⟨w.heap.size + 1 + 1 + 1, 1, none⟩ = false := by { rw [← hW]; clear hW; go_simp }
  have l3 : w.heap.size + 1 + 1 + 1 < w5.heap.size := by { rw [← hW]; clear hW; simp }
  have HB5 := Lib.hid hb5
  clear hW hb5
  go_loopw [7, 8, 9] (fun a b i wr => ∃ m, wr = w5.drewN m ∧ ((i = .int .i64 0 ∧ a = .int .i64 0 ∧ b = .int .i64 0) ∨ (i = .int .i64 1 ∧ a = .int .i64 (A1 * A1) ∧ b = .int .i64 (F1 * F1)) ∨ (i = .int .i64 2 ∧ a = .int .i64 (A1 * A1 + A2 * A2) ∧ b = .int .i64 (F1 * F1 + F2 * F2)) ∨ (i = .int .i64 3 ∧ a = .int .i64 S ∧ b = .int .i64 T))) (fun _ _ i _ => 3 - (intOf i).toNat)
  case atStart => exact ⟨0, rfl, .inl ⟨rfl, rfl, rfl⟩⟩
  case round =>
    obtain ⟨m, rfl, hrel⟩ := hrel
    rcases hrel with ⟨rfl, rfl, rfl⟩ | ⟨rfl, rfl, rfl⟩ | ⟨rfl, rfl, rfl⟩ | ⟨rfl, rfl, rfl⟩
    · skip
      have hw1 : IntKind.i64.wrap (cx * st) = cx * st := by rw [IntKind.wrap_i64]; omega
      have hw2 : IntKind.i64.wrap (fx + cx * st) = fx + cx * st := by rw [IntKind.wrap_i64]; omega
      have hw3 : IntKind.i64.wrap (fx + cx * st - qx) = L1 := by rw [IntKind.wrap_i64, HL1.out]; omega
      have hw4 : IntKind.i64.wrap (L1 + st) = L1 + st := by rw [IntKind.wrap_i64]; omega
      have HZ1 := Lib.hid (fun w' => bsize_any L1 w' (by omega) (by omega))
      have HZ2 := Lib.hid (fun w' => bsize_any (L1 + st) w' (by omega) (by omega))
      go_wp2_with fail
      go_quiet (fail)
      clear hw1 hw2 hw3
      by_cases h1 : 0 < L1
      · have e1 : A1 = L1 := HN1.out.trans (if_pos h1)
        go_wp2_with fail
        refine (HZ1.out _).mono ?_
        rintro e w' ⟨rfl, rfl⟩
        go_wp2_with fail
        refine (HZ2.out _).mono ?_
        rintro e w' ⟨rfl, rfl⟩
        have hm := HM1.out
        go_wp2
        clear hm
        go_roundw
        case rel =>
          refine ⟨_, rfl, .inr (.inl ⟨rfl, ?_, ?_⟩)⟩
          · try rw [HS.out]
            rw [← e1, w64 (x := A1 * A1) (by omega) (by omega), w64 (by omega) (by omega)]
          · first | rfl | rw [HT.out]
        case measure => simp [intOf]
      · by_cases h2 : L1 + st < 0
        · have e1 : A1 = -(L1 + st) := HN1.out.trans ((if_neg h1).trans (if_pos h2))
          go_wp2_with fail
          refine (HZ1.out _).mono ?_
          rintro e w' ⟨rfl, rfl⟩
          go_wp2_with fail
          refine (HZ2.out _).mono ?_
          rintro e w' ⟨rfl, rfl⟩
          have hm := HM1.out
          go_wp2
          clear hm
          go_roundw
          case rel =>
            refine ⟨_, rfl, .inr (.inl ⟨rfl, ?_, ?_⟩)⟩
            · try rw [HS.out]
              rw [← e1, w64 (x := A1 * A1) (by omega) (by omega), w64 (by omega) (by omega)]
            · first | rfl | rw [HT.out]
          case measure => simp [intOf]
        · have e1 : A1 = 0 := HN1.out.trans ((if_neg h1).trans (if_neg h2))
          go_wp2_with fail
          refine (HZ1.out _).mono ?_
          rintro e w' ⟨rfl, rfl⟩
          go_wp2_with fail
          refine (HZ2.out _).mono ?_
          rintro e w' ⟨rfl, rfl⟩
          have hm := HM1.out
          go_wp2
          clear hm
          go_roundw
          case rel =>
            refine ⟨_, rfl, .inr (.inl ⟨rfl, ?_, ?_⟩)⟩
            · try rw [HS.out]
              rw [e1]; simp
            · first | rfl | rw [HT.out]
          case measure => simp [intOf]
    · skip
      have hw1 : IntKind.i64.wrap (cy * st) = cy * st := by rw [IntKind.wrap_i64]; omega
      have hw2 : IntKind.i64.wrap (fy + cy * st) = fy + cy * st := by rw [IntKind.wrap_i64]; omega
      have hw3 : IntKind.i64.wrap (fy + cy * st - qy) = L2 := by rw [IntKind.wrap_i64, HL2.out]; omega
      have hw4 : IntKind.i64.wrap (L2 + st) = L2 + st := by rw [IntKind.wrap_i64]; omega
      have HZ1 := Lib.hid (fun w' => bsize_any L2 w' (by omega) (by omega))
      have HZ2 := Lib.hid (fun w' => bsize_any (L2 + st) w' (by omega) (by omega))
      go_wp2_with fail
      go_quiet (fail)
      clear hw1 hw2 hw3
      by_cases h1 : 0 < L2
      · have e1 : A2 = L2 := HN2.out.trans (if_pos h1)
        go_wp2_with fail
        refine (HZ1.out _).mono ?_
        rintro e w' ⟨rfl, rfl⟩
        go_wp2_with fail
        refine (HZ2.out _).mono ?_
        rintro e w' ⟨rfl, rfl⟩
        have hm := HM2.out
        go_wp2
        clear hm
        go_roundw
        case rel =>
          refine ⟨_, rfl, .inr (.inr (.inl ⟨rfl, ?_, ?_⟩))⟩
          · try rw [HS.out]
            rw [← e1, w64 (x := A2 * A2) (by omega) (by omega), w64 (by omega) (by omega)]
          · first | rfl | rw [HT.out]
        case measure => simp [intOf]
      · by_cases h2 : L2 + st < 0
        · have e1 : A2 = -(L2 + st) := HN2.out.trans ((if_neg h1).trans (if_pos h2))
          go_wp2_with fail
          refine (HZ1.out _).mono ?_
          rintro e w' ⟨rfl, rfl⟩
          go_wp2_with fail
          refine (HZ2.out _).mono ?_
          rintro e w' ⟨rfl, rfl⟩
          have hm := HM2.out
          go_wp2
          clear hm
          go_roundw
          case rel =>
            refine ⟨_, rfl, .inr (.inr (.inl ⟨rfl, ?_, ?_⟩))⟩
            · try rw [HS.out]
              rw [← e1, w64 (x := A2 * A2) (by omega) (by omega), w64 (by omega) (by omega)]
            · first | rfl | rw [HT.out]
          case measure => simp [intOf]
        · have e1 : A2 = 0 := HN2.out.trans ((if_neg h1).trans (if_neg h2))
          go_wp2_with fail
          refine (HZ1.out _).mono ?_
          rintro e w' ⟨rfl, rfl⟩
          go_wp2_with fail
          refine (HZ2.out _).mono ?_
          rintro e w' ⟨rfl, rfl⟩
          have hm := HM2.out
          go_wp2
          clear hm
          go_roundw
          case rel =>
            refine ⟨_, rfl, .inr (.inr (.inl ⟨rfl, ?_, ?_⟩))⟩
            · try rw [HS.out]
              rw [e1]; simp
            · first | rfl | rw [HT.out]
          case measure => simp [intOf]
    · skip
      have hw1 : IntKind.i64.wrap (cz * st) = cz * st := by rw [IntKind.wrap_i64]; omega
      have hw2 : IntKind.i64.wrap (fz + cz * st) = fz + cz * st := by rw [IntKind.wrap_i64]; omega
      have hw3 : IntKind.i64.wrap (fz + cz * st - qz) = L3 := by rw [IntKind.wrap_i64, HL3.out]; omega
      have hw4 : IntKind.i64.wrap (L3 + st) = L3 + st := by rw [IntKind.wrap_i64]; omega
      have HZ1 := Lib.hid (fun w' => bsize_any L3 w' (by omega) (by omega))
      have HZ2 := Lib.hid (fun w' => bsize_any (L3 + st) w' (by omega) (by omega))
      go_wp2_with fail
      go_quiet (fail)
      clear hw1 hw2 hw3
      by_cases h1 : 0 < L3
      · have e1 : A3 = L3 := HN3.out.trans (if_pos h1)
        go_wp2_with fail
        refine (HZ1.out _).mono ?_
        rintro e w' ⟨rfl, rfl⟩
        go_wp2_with fail
        refine (HZ2.out _).mono ?_
        rintro e w' ⟨rfl, rfl⟩
        have hm := HM3.out
        go_wp2
        clear hm
        go_roundw
        case rel =>
          refine ⟨_, rfl, .inr (.inr (.inr ⟨rfl, ?_, ?_⟩))⟩
          · try rw [HS.out]
            rw [← e1, w64 (x := A3 * A3) (by omega) (by omega), w64 (by omega) (by omega)]
          · first | rfl | rw [HT.out]
        case measure => simp [intOf]
      · by_cases h2 : L3 + st < 0
        · have e1 : A3 = -(L3 + st) := HN3.out.trans ((if_neg h1).trans (if_pos h2))
          go_wp2_with fail
          refine (HZ1.out _).mono ?_
          rintro e w' ⟨rfl, rfl⟩
          go_wp2_with fail
          refine (HZ2.out _).mono ?_
          rintro e w' ⟨rfl, rfl⟩
          have hm := HM3.out
          go_wp2
          clear hm
          go_roundw
          case rel =>
            refine ⟨_, rfl, .inr (.inr (.inr ⟨rfl, ?_, ?_⟩))⟩
            · try rw [HS.out]
              rw [← e1, w64 (x := A3 * A3) (by omega) (by omega), w64 (by omega) (by omega)]
            · first | rfl | rw [HT.out]
          case measure => simp [intOf]
        · have e1 : A3 = 0 := HN3.out.trans ((if_neg h1).trans (if_neg h2))
          go_wp2_with fail
          refine (HZ1.out _).mono ?_
          rintro e w' ⟨rfl, rfl⟩
          go_wp2_with fail
          refine (HZ2.out _).mono ?_
          rintro e w' ⟨rfl, rfl⟩
          have hm := HM3.out
          go_wp2
          clear hm
          go_roundw
          case rel =>
            refine ⟨_, rfl, .inr (.inr (.inr ⟨rfl, ?_, ?_⟩))⟩
            · try rw [HS.out]
              rw [e1]; simp
            · first | rfl | rw [HT.out]
          case measure => simp [intOf]
    · go_wp2_with fail
      refine (HRN.out _).mono ?_
      rintro e w' ⟨rfl, rfl⟩
      go_wp2_with fail
      refine (HRF.out _).mono ?_
      rintro e w' ⟨rfl, rfl⟩
      go_wp2
      generalize hW : World.setCell _ _ _ = w9
      have c0 : w9.cell? ⟨w.heap.size + 1 + 1 + 1, 0, none⟩ = some (.int .i64 R2) := by { rw [← hW]; clear hW; go_simp }
      have hb9 : Below w.heap.size w w9 := by { rw [← hW]; have := HB5.out; (repeat' (first | (with_reducible exact Below.refl _ _) | (with_reducible assumption) | (with_reducible refine Below.drewN ?_ _) | (with_reducible refine Below.alloc ?_ ?_ _) | (with_reducible refine Below.drew ?_) | (with_reducible refine Below.setCell ?_ ?_ _) | (with_reducible refine Below.step (by assumption) ?_ ?_) | (with_reducible exact And.left (by assumption)) | go_size)) }
      have c1 : w9.cell? ⟨w.heap.size + 1 + 1 + 1, 1, none⟩ = some (.int .i64 R) := by { rw [← hW]; clear hW; go_simp }
      clear hW
      exact bodyPost_ret (v := .agg #[.int .i64 R2, .int .i64 R]) (by simp [results, Tryz.results160, go_sem, c0, c1]) rfl ⟨rfl, hb9⟩
end Go.Proofs.YthkekjgdknnaiaaGreat

/- The reference of answers: times between sensors; whether a speed keeps a cell. -/
namespace Go.Proofs.YthkekjgdknnaiaaGreat
open Go.RowKit
set_option linter.unusedVariables false

theorem run_rng0 (w : World) (a b : Value) : (Instr.field 58 (.agg #[a, b]) 0).run Tryz.prog w = .ok a w := by first | kernel_rfl | rfl | (simp [go_sem, Tryz.underlying58])
theorem run_rng1 (w : World) (a b : Value) : (Instr.field 58 (.agg #[a, b]) 1).run Tryz.prog w = .ok b w := by first | kernel_rfl | rfl | (simp [go_sem, Tryz.underlying58])
attribute [go_sem] run_rng0 run_rng1
theorem rLate_any (lo hi : Int) (l : List Sen) (a : Option Addr) (n c i j : Nat) (w : World) (hl : SenR w a n l) (hi' : i < n) (hj : j < n) (hb : ∀ k, k < n → -9000000000 ≤ (sAt l k).lo ∧ (sAt l k).lo ≤ 9000000000 ∧ -9000000000 ≤ (sAt l k).hi ∧ (sAt l k).hi ≤ 9000000000) :
    Calls Tryz.prog 161 #[.agg #[.int .i64 lo, .int .i64 hi, .slice a n c], .int .i64 i, .int .i64 j] w fun e' w' => e' = .returned (.int .i64 (lat l i j)) ∧ Below w.heap.size w w' := by
  have hn := hl.small
  obtain ⟨b, o, rfl, hbb, hc⟩ := hl.addr (by omega)
  obtain ⟨si, hsi⟩ := ER.get hl hi'
  obtain ⟨sj, hsj⟩ := ER.get hl hj
  obtain ⟨_, _, _, q3, _⟩ := hc i si hsi
  obtain ⟨_, _, _, _, r4⟩ := hc j sj hsj
  have b1 := hb i hi'
  have b2 := hb j hj
  rw [sAt_get hsi] at b1
  rw [sAt_get hsj] at b2
  unfold lat
  rw [sAt_get hsi, sAt_get hsj]
  generalize si.lo = x at *
  generalize sj.hi = y at *
  have i0 : (0 : Int) ≤ (i : Int) := by omega
  have i1 : (i : Int) < (n : Int) := by omega
  have j0 : (0 : Int) ≤ (j : Int) := by omega
  have j1 : (j : Int) < (n : Int) := by omega
  have hwr : IntKind.i64.wrap (y - x) = y - x := by rw [IntKind.wrap_i64]; omega
  clear hl hc hsi hsj hb b1 b2 hi' hj
  go_enter Tryz.func161, Tryz.ntmps161
  go_wp2_with fail
  go_quiet (fail)
  go_wp2
  go_ret
  exact ⟨rfl, by (repeat' (first | (with_reducible exact Below.refl _ _) | (with_reducible assumption) | (with_reducible refine Below.drewN ?_ _) | (with_reducible refine Below.alloc ?_ ?_ _) | (with_reducible refine Below.drew ?_) | (with_reducible refine Below.setCell ?_ ?_ _) | (with_reducible refine Below.step (by assumption) ?_ ?_) | (with_reducible exact And.left (by assumption)) | go_size))⟩
/-- What a speed keeps, by the sensors of a set; the answer by a set. -/
def kpS (g : Gri) (A : Arr) (c : T3) (v : Int) (S : List Nat) (x y : Nat) : Bool := keep g A c v (S.getD x 0) (S.getD y 0)
def exS (g : Gri) (A : Arr) (c : T3) (S : List Nat) (x y : Nat) : Bool := excl g A c (S.getD x 0) (S.getD y 0)
def ansS (g : Gri) (A : Arr) (c : T3) (S : List Nat) : Int :=
  if allP S.length (fun x y => !exS g A c S x y) = true then (if allP S.length (kpS g A c A.lo S) = true ∨ allP S.length (kpS g A c A.hi S) = true then 2 else 1) else 0
theorem allP_congr {n : Nat} {p q : Nat → Nat → Bool} (h : ∀ i j, i < n → j < n → p i j = q i j) : allP n p = allP n q := by
  rw [Bool.eq_iff_iff, allP_iff, allP_iff]
  exact ⟨fun h1 i j hi hj hne => (h i j hi hj) ▸ h1 i j hi hj hne, fun h1 i j hi hj hne => (h i j hi hj).symm ▸ h1 i j hi hj hne⟩
theorem range_getD {n x : Nat} (h : x < n) : (List.range n).getD x 0 = x := by simp [List.getD, h]
theorem ansS_all (g : Gri) (A : Arr) (c : T3) : ansS g A c (List.range A.l.length) = ans g A c := by
  unfold ansS ans
  rw [List.length_range]
  rw [allP_congr (p := fun x y => !exS g A c (List.range A.l.length) x y) (q := fun i j => !excl g A c i j) (fun i j hi hj => by unfold exS; rw [range_getD hi, range_getD hj]),
    allP_congr (p := kpS g A c A.lo (List.range A.l.length)) (q := keep g A c A.lo) (fun i j hi hj => by unfold kpS; rw [range_getD hi, range_getD hj]),
    allP_congr (p := kpS g A c A.hi (List.range A.l.length)) (q := keep g A c A.hi) (fun i j hi hj => by unfold kpS; rw [range_getD hi, range_getD hj])]
theorem nats_at {w : World} {a : Option Addr} {k : Nat} {S : List Nat} (h : IntsR w a k (nats S)) {x : Nat} (hx : x < k) : ∃ b o, a = some ⟨b, o, none⟩ ∧ b < w.heap.size ∧ w.cell? ⟨b, o + x, none⟩ = some (.int .i64 (S.getD x 0 : Nat)) := by
  obtain ⟨b, o, ha, hb, hc⟩ := h.addr (by omega)
  have h1 := hc x hx
  have hl : S.length = k := by have := h.len; simpa [nats] using this
  refine ⟨b, o, ha, hb, ?_⟩
  rw [h1]
  congr 2
  unfold nats
  simp [List.getD, show x < S.length by omega]
theorem nats_len {w : World} {a : Option Addr} {k : Nat} {S : List Nat} (h : IntsR w a k (nats S)) : S.length = k := by have := h.len; simpa [nats] using this
theorem getD_lt {S : List Nat} {n x : Nat} (h : ∀ i ∈ S, i < n) (hx : x < S.length) : S.getD x 0 < n := by
  simp only [List.getD, List.getElem?_eq_getElem hx, Option.getD_some]
  exact h _ (List.getElem_mem hx)
theorem nodup_getD {S : List Nat} (h : S.Nodup) {x y : Nat} (hx : x < S.length) (hy : y < S.length) (he : S.getD x 0 = S.getD y 0) : x = y := by
  simp only [List.getD, List.getElem?_eq_getElem hx, List.getElem?_eq_getElem hy, Option.getD_some] at he
  rcases Nat.lt_trichotomy x y with hlt | hlt | hlt
  · exact absurd he (List.pairwise_iff_getElem.1 h x y hx hy hlt)
  · exact hlt
  · exact absurd he.symm (List.pairwise_iff_getElem.1 h y x hy hx hlt)
end Go.Proofs.YthkekjgdknnaiaaGreat
