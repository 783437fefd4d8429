import Derived.Test.YthkekjgdknnaiaaGreatDCal
import Derived.Test.YthkekjgdknnaiaaGreatMDSub
import Derived.Test.YthkekjgdknnaiaaGreatRSer
/- Levels, charges and calibrations: the reference's functions. -/
namespace Go.Proofs.YthkekjgdknnaiaaGreat
open Go.RowKit
set_option linter.unusedVariables false

theorem b_lowest_any (a b : Int) (w : World) (ha0 : -9000000000000000000 ≤ a) (ha1 : a ≤ 9000000000000000000) (hb0 : 0 < b) (hb1 : b ≤ 9000000000000000000) :
    Calls Tryz.prog 104 #[.int .i64 a, .int .i64 b] w fun e' w' => e' = .returned (.agg #[.int .i64 (a.tdiv (gc a b)), .int .i64 (b / gc a b)]) ∧ Below w.heap.size w w' := by
  have hg0 := gc_pos (a := a) hb0
  have hg1 := gc_le (a := a) hb0
  have hq := tdiv_bd a (gc a b) 9000000000000000000 (by omega) (by omega)
  have hgn : (gc a b == 0) = false := by simp; omega
  have hb2 : ¬ b < 0 := by omega
  go_enter Tryz.func104, Tryz.ntmps104
  go_wp2_with fail
  refine (b_gcd_gen _ _ _ (by omega) (by omega) (by omega) (by omega)).mono ?_
  rintro e w' ⟨rfl, n, rfl⟩
  go_wp2_with fail
  go_region
  all_goals
    go_wp2
    refine bodyPost_ret (v := .agg #[.int .i64 (a.tdiv (gc a b)), .int .i64 (b / gc a b)]) (by simp [results, Tryz.results104, go_sem]) rfl ⟨rfl, ?_⟩
    (repeat' (first | (with_reducible exact Below.refl _ _) | (with_reducible assumption) | (with_reducible refine Below.drewN ?_ _) | (with_reducible refine Below.alloc ?_ ?_ _) | (with_reducible refine Below.drew ?_) | (with_reducible refine Below.setCell ?_ ?_ _) | (with_reducible refine Below.step (by assumption) ?_ ?_) | (with_reducible exact And.left (by assumption)) | go_size))
theorem ediv_bdX {x y : Int} (hx0 : -9000000000000000000 ≤ x) (hx1 : x ≤ 9000000000000000000) (hy : 0 < y) : -9000000000000000000 ≤ x / y ∧ x / y ≤ 9000000000000000000 := by
  constructor
  · exact Int.le_ediv_of_mul_le hy (by have := Int.mul_le_mul_of_nonneg_left (show 1 ≤ y by omega) (show (0 : Int) ≤ 9000000000000000000 by omega); omega)
  · have := Int.ediv_le_self (a := (9000000000000000000 : Int)) y (by omega)
    exact Int.le_trans (Int.ediv_le_ediv hy (by omega)) this
theorem ceilB_any (x y : Int) (w : World) (hx0 : -9000000000000000000 ≤ x) (hx1 : x ≤ 9000000000000000000) (hy : 0 < y) (hy1 : y ≤ 9000000000000000000) :
    Calls Tryz.prog 58 #[.int .i64 x, .int .i64 y] w fun e' w' => e' = .returned (.int .i64 (-((-x) / y))) ∧ w = w' := by
  have HF := Lib.hid (fun w' => floor_pos (-x) y w' (by omega) (by omega) hy hy1)
  have h1 := ediv_bdX (x := -x) (by omega) (by omega) hy
  generalize (-x) / y = Z at *
  go_enter Tryz.func58, Tryz.ntmps58
  go_wp2_with fail
  refine (HF.out _).mono ?_
  rintro e5 w5 ⟨rfl, rfl⟩
  go_wp2
  go_ret
  exact ⟨rfl, rfl⟩
theorem rSeriesErr_any (s : Ser) (ap : Option Addr) (n cp : Nat) (w : World) (hw : SerW s) (hl : T3R w ap n s.l) :
    Calls Tryz.prog 41 #[.agg #[.string s.nm, .int .i64 s.per, .int .i64 s.least, .int .i64 s.a, .int .i64 s.b, .int .i64 s.c, .int .i64 s.d, .slice ap n cp]] w fun e' w' => e' = .returned (.int .i64 (serE s).2) ∧ Below w.heap.size w w' := by
  have HC := Lib.hid (fun (W : World) (hb : Below w.heap.size w W) => rCheckSeries_any s ap n cp W hw (hl.below hb))
  generalize serE s = E at *
  obtain ⟨nm, per, least, a, b, c, d, l⟩ := s
  obtain ⟨k, e⟩ := E
  simp only at HC ⊢
  clear hw hl
  go_enter Tryz.func41, Tryz.ntmps41
  go_wp2_with fail
  refine (HC.out _ (by (repeat' (first | (with_reducible exact Below.refl _ _) | (with_reducible assumption) | (with_reducible refine Below.drewN ?_ _) | (with_reducible refine Below.alloc ?_ ?_ _) | (with_reducible refine Below.drew ?_) | (with_reducible refine Below.setCell ?_ ?_ _) | (with_reducible refine Below.step (by assumption) ?_ ?_) | (with_reducible exact And.left (by assumption)) | go_size)))).mono ?_
  rintro e5 w5 ⟨rfl, hb5⟩
  have HB := Lib.hid (show Below w.heap.size w w5 from Below.trans (by (repeat' (first | (with_reducible exact Below.refl _ _) | (with_reducible assumption) | (with_reducible refine Below.drewN ?_ _) | (with_reducible refine Below.alloc ?_ ?_ _) | (with_reducible refine Below.drew ?_) | (with_reducible refine Below.setCell ?_ ?_ _) | (with_reducible refine Below.step (by assumption) ?_ ?_) | (with_reducible exact And.left (by assumption)) | go_size))) (hb5.mono (by simp)))
  clear hb5 HC
  go_wp2
  go_ret
  exact ⟨rfl, HB.out⟩
theorem cge_take {A : List Int} {q x : Int} {k : Nat} (h : A[k]? = some x) : cge (A.take (k + 1)) q = cge (A.take k) q + if q ≤ x then 1 else 0 := by
  unfold cge
  rw [List.take_add_one, h, List.countP_append]
  by_cases hq : q ≤ x
  · rw [if_pos hq]; simp [hq]
  · rw [if_neg hq]; simp [hq]
theorem lvAmp_get {l : List T3} {k : Nat} {p : T3} (h : l[k]? = some p) : (lvAmp l)[k]? = some (sz p.y) := by
  unfold lvAmp; rw [List.getElem?_map, h]; rfl
theorem lvlD_succ (l : List Int) (m : Int) (q : Nat) : lvlD l m (q + 1) = if m ≤ (cge l ((q + 1 : Nat) : Int) : Int) then (((q + 1 : Nat) : Int), true) else lvlD l m q := rfl
set_option maxHeartbeats 1000000 in
set_option maxRecDepth 100000 in
theorem rLevel_any (s : Ser) (ap : Option Addr) (n cp : Nat) (w : World) (hv : (serE s).2 = 0) (hl : T3R w ap n s.l) :
    Calls Tryz.prog 33 #[.agg #[.string s.nm, .int .i64 s.per, .int .i64 s.least, .int .i64 s.a, .int .i64 s.b, .int .i64 s.c, .int .i64 s.d, .slice ap n cp]] w fun e' w' => e' = .returned (.tuple #[.int .i64 (lvlD (lvAmp s.l) s.least 4096).1, .bool (lvlD (lvAmp s.l) s.least 4096).2]) ∧ Below w.heap.size w w' := by
  obtain ⟨_, hh, hp⟩ := serE_zero hv
  have hn60 := (headE_zero hh).2.2.2.2
  have hn : n ≤ 60 := by rw [← hl.len]; exact hn60
  have HL := Lib.hid hl
  have HLN := Lib.hid hl.len
  have HP := Lib.hid (fun (k : Nat) (p : T3) (h : s.l[k]? = some p) => show -4096 ≤ p.y ∧ p.y ≤ 4096 by
    have := (pulE_zero (hp k (List.getElem?_eq_some_iff.1 h).1)).2.1
    rwa [pAt_get h] at this)
  clear hh hp hn60 hv hl
  obtain ⟨V, hV⟩ : ∃ V, V = lvlD (lvAmp s.l) s.least 4096 := ⟨_, rfl⟩
  rw [← hV]
  have HV := Lib.hid hV.symm
  clear hV
  obtain ⟨nm, per, least, a, b, c, d, l⟩ := s
  obtain ⟨V1, V2⟩ := V
  simp only at *
  go_enter Tryz.func33, Tryz.ntmps33
  go_wp2_with fail
  generalize hW : World.alloc _ _ = w4
  have hb4 : Below w.heap.size w w4 := by rw [← hW]; (repeat' (first | (with_reducible exact Below.refl _ _) | (with_reducible assumption) | (with_reducible refine Below.drewN ?_ _) | (with_reducible refine Below.alloc ?_ ?_ _) | (with_reducible refine Below.drew ?_) | (with_reducible refine Below.setCell ?_ ?_ _) | (with_reducible refine Below.step (by assumption) ?_ ?_) | (with_reducible exact And.left (by assumption)) | go_size))
  have x2 : w4.cell? ⟨w.heap.size, 2, none⟩ = some (.int .i64 least) := by { rw [← hW]; clear hW; go_simp }
  have x4 : w4.cell? ⟨w.heap.size, 7, none⟩ = some (.slice ap n cp) := by { rw [← hW]; clear hW; go_simp }
  have l0 : w.heap.size < w4.heap.size := by { rw [← hW]; clear hW; simp }
  have HB := Lib.hid hb4
  have HL := Lib.hid (HL.out.below hb4)
  clear hW hb4
  go_loopw [4] (fun v wr => ∃ Q : Nat, v = .int .i64 (Q : Int) ∧ Q ≤ 4096 ∧ Hid (lvlD (lvAmp l) least Q = (V1, V2)) ∧ wr = w4) (fun v _ => (intOf v).toNat)
  case atStart => exact ⟨4096, rfl, Nat.le_refl _, HV, rfl⟩
  case round =>
    obtain ⟨Q, rfl, hQ, hD, rfl⟩ := hrel
    cases Q with
    | zero =>
      have hd := hD.out
      obtain ⟨rfl, rfl⟩ : 0 = V1 ∧ false = V2 := by unfold lvlD at hd; simpa using hd
      clear hd
      go_wp2
      go_ret2
      exact ⟨rfl, HB.out⟩
    | succ t =>
      have hd := hD.out
      rw [lvlD_succ] at hd
      have HD := Lib.hid hd
      clear hd hD HV
      have q0 : (0 : Int) < ((t + 1 : Nat) : Int) := by omega
      obtain ⟨q, hq⟩ : ∃ q : Int, q = ((t + 1 : Nat) : Int) := ⟨_, rfl⟩
      have HQ := Lib.hid hq
      rw [← hq] at HD q0 ⊢
      have hq1 : 1 ≤ q ∧ q ≤ 4096 := by omega
      clear hq
      go_wp2_with fail
      go_loopw [5, 6] (fun v i wx => ∃ (k N : Nat), i = .int .i64 (k : Int) ∧ v = .int .i64 (N : Int) ∧ k ≤ n ∧ N ≤ k ∧ Hid (N = cge ((lvAmp l).take k) q) ∧ wx = wr) (fun _ i _ => n - (intOf i).toNat)
      case atStart => exact ⟨0, 0, rfl, rfl, Nat.zero_le _, Nat.le_refl _, Lib.hid rfl, rfl⟩
      case round =>
        obtain ⟨k, N, rfl, rfl, hk, hN, hC, rfl⟩ := hrel
        have i0 : (0 : Int) ≤ (k : Int) := by omega
        by_cases hlt : k < n
        · have i1 : (k : Int) < (n : Int) := by omega
          obtain ⟨b0, o0, rfl, hb0, hcs⟩ := HL.out.addr (by omega)
          obtain ⟨⟨x, y, z⟩, hx⟩ := ER.get HL.out hlt
          obtain ⟨c0, c1, c2⟩ := hcs k _ hx
          have hy := HP.out k _ hx
          simp only at hy c1
          have HS := Lib.hid (fun w' => bsize_any y w' (by omega) (by omega))
          have hct := cge_take (q := q) (lvAmp_get hx)
          rw [← hC.out] at hct
          simp only at hct
          clear hcs c0 c2 hx hy
          generalize sz y = Y at *
          by_cases hge : q ≤ Y
          · rw [if_pos hge] at hct
            have HC2 := Lib.hid hct.symm
            clear hct hC
            go_wp2_with fail
            refine (HS.out _).mono ?_
            rintro e5 w5 ⟨rfl, rfl⟩
            go_wp2
            go_roundw
            case rel => exact ⟨k + 1, N + 1, by go_num, by go_num, by omega, by omega, HC2, by first | rfl | trivial⟩
            case measure => simp [intOf]; omega
          · rw [if_neg hge, Nat.add_zero] at hct
            have HC2 := Lib.hid hct.symm
            clear hct hC
            go_wp2_with fail
            refine (HS.out _).mono ?_
            rintro e5 w5 ⟨rfl, rfl⟩
            go_wp2
            go_roundw
            case rel => exact ⟨k + 1, N, by go_num, rfl, by omega, by omega, HC2, by first | rfl | trivial⟩
            case measure => simp [intOf]; omega
        · obtain rfl : k = n := by omega
          have hc := hC.out
          rw [List.take_of_length_le (by unfold lvAmp; rw [List.length_map, HLN.out]; omega)] at hc
          have hd := HD.out
          rw [← hc] at hd
          clear hc hC
          by_cases hle : least ≤ (N : Int)
          · rw [if_pos hle, Prod.mk.injEq] at hd
            obtain ⟨rfl, rfl⟩ := hd
            clear HD
            go_wp2
            go_ret2
            exact ⟨rfl, HB.out⟩
          · rw [if_neg hle] at hd
            have HD2 := Lib.hid hd
            clear hd HD
            go_wp2
            go_roundw
            case rel => exact ⟨t, by have := HQ.out; go_num, by omega, HD2, by first | rfl | trivial⟩
            case measure => have := HQ.out; simp [intOf]; omega
theorem chgE_bad {s : Ser} (h : (levE s).2 ≠ 0) : chgE s = ((0, 0), (levE s).2) := by unfold chgE; rw [if_pos h]
theorem ceil_eq {x d : Int} (hx : 0 ≤ x) (hd : 0 < d) : -((-x) / d) = (x + d - 1).tdiv d := by
  rw [Int.tdiv_eq_ediv_of_nonneg (by omega)]
  have e1 := Int.mul_ediv_add_emod (-x) d
  have r1 := Int.emod_nonneg (-x) (show d ≠ 0 by omega)
  have r2 := Int.emod_lt_of_pos (-x) hd
  have e2 := Int.mul_ediv_add_emod (x + d - 1) d
  have r3 := Int.emod_nonneg (x + d - 1) (show d ≠ 0 by omega)
  have r4 := Int.emod_lt_of_pos (x + d - 1) hd
  generalize (-x) / d = p at *
  generalize (x + d - 1) / d = q at *
  generalize (-x) % d = r at *
  generalize (x + d - 1) % d = t at *
  have e3 : d * (p + q) = d - 1 - r - t := by rw [Int.mul_add]; omega
  have h1 : p + q = 0 := by
    rcases Int.lt_trichotomy (p + q) 0 with h | h | h
    · have := Int.mul_le_mul_of_nonneg_left (show p + q ≤ -1 by omega) (show 0 ≤ d by omega)
      rw [e3] at this; omega
    · exact h
    · have := Int.mul_le_mul_of_nonneg_left (show 1 ≤ p + q by omega) (show 0 ≤ d by omega)
      rw [e3] at this; omega
  omega
theorem chgE_ok {s : Ser} (h : (levE s).2 = 0) : chgE s = (((levE s).1 * s.a / s.b, -(-((levE s).1 * s.c) / s.d)), 0) ∧ (1 ≤ (levE s).1 ∧ (levE s).1 ≤ 4096) ∧ (1 ≤ s.a ∧ s.a ≤ 1000000000) ∧ (1 ≤ s.b ∧ s.b ≤ 1000000000) ∧ (1 ≤ s.c ∧ s.c ≤ 1000000000) ∧ (1 ≤ s.d ∧ s.d ≤ 1000000000) ∧ (levE s).1 * s.a ≤ 5000000000000 ∧ (levE s).1 * s.c ≤ 5000000000000 ∧ 0 ≤ (levE s).1 * s.a ∧ 0 ≤ (levE s).1 * s.c := by
  have h1 := lvl_bd h
  obtain ⟨_, _, h2, h3, h4, h5, _⟩ := calE_zero (headE_zero (serE_zero (lvErr_zero (levE_zero h).1).1).2.1).2.2.2.1
  have m1 : 0 ≤ (levE s).1 * s.a := Int.mul_nonneg (by omega) (by omega)
  have m2 : 0 ≤ (levE s).1 * s.c := Int.mul_nonneg (by omega) (by omega)
  have m3 : (levE s).1 * s.a ≤ 4096 * 1000000000 := Int.mul_le_mul h1.2 h2.2 (by omega) (by omega)
  have m4 : (levE s).1 * s.c ≤ 4096 * 1000000000 := Int.mul_le_mul h1.2 h4.2 (by omega) (by omega)
  refine ⟨?_, h1, h2, h3, h4, h5, by omega, by omega, m1, m2⟩
  unfold chgE
  rw [if_neg (by rw [h]; decide), ceil_eq m2 (by omega), Int.tdiv_eq_ediv_of_nonneg m1]
set_option maxHeartbeats 2000000 in
set_option maxRecDepth 100000 in
theorem rChargeOf_any (s : Ser) (ap : Option Addr) (n cp : Nat) (w : World) (hw : SerW s) (hl : T3R w ap n s.l) :
    Calls Tryz.prog 31 #[.agg #[.string s.nm, .int .i64 s.per, .int .i64 s.least, .int .i64 s.a, .int .i64 s.b, .int .i64 s.c, .int .i64 s.d, .slice ap n cp]] w fun e' w' => e' = .returned (.tuple #[.agg #[.int .i64 (chgE s).1.1, .int .i64 (chgE s).1.2], .int .i64 (chgE s).2]) ∧ Below w.heap.size w w' := by
  have HS := Lib.hid (fun (W : World) (hb : Below w.heap.size w W) => rSeriesErr_any s ap n cp W hw (hl.below hb))
  have HL := Lib.hid (fun (hv : (serE s).2 = 0) (W : World) (hb : Below w.heap.size w W) => show Calls Tryz.prog 33 #[.agg #[.string s.nm, .int .i64 s.per, .int .i64 s.least, .int .i64 s.a, .int .i64 s.b, .int .i64 s.c, .int .i64 s.d, .slice ap n cp]] W fun e' w' => e' = .returned (.tuple #[.int .i64 (if s.least ≤ (n : Int) then ((levE s).1, true) else (0, false)).1, .bool (if s.least ≤ (n : Int) then ((levE s).1, true) else (0, false)).2]) ∧ Below W.heap.size W w' by
    have h := rLevel_any s ap n cp W hv (hl.below hb)
    rw [lvlD_ser hv, hl.len] at h
    exact h)
  have HV1 := Lib.hid (fun (hv : (serE s).2 ≠ 0) => show chgE s = ((0, 0), (serE s).2) by rw [chgE_bad (by rw [levE_bad hv]; exact hv), levE_bad hv])
  have HV2 := Lib.hid (fun (hv : (serE s).2 = 0) (hn : ¬ s.least ≤ (n : Int)) => show chgE s = ((0, 0), 12) by
    have h := levE_err hv
    rw [if_neg (by rw [hl.len]; exact hn)] at h
    rw [chgE_bad (by rw [h]; decide), h])
  have HV3 := Lib.hid (fun (hv : (serE s).2 = 0) (hn : s.least ≤ (n : Int)) => chgE_ok (s := s) (by
    have h := levE_err hv
    rwa [if_pos (by rw [hl.len]; exact hn)] at h))
  clear hl hw
  generalize (serE s).2 = E at *
  generalize (levE s).1 = q at *
  generalize chgE s = V at *
  obtain ⟨⟨V1, V2⟩, V3⟩ := V
  obtain ⟨nm, per, least, a, b, c, d, l⟩ := s
  simp only at *
  go_enter Tryz.func31, Tryz.ntmps31
  go_wp2_with fail
  generalize hW : World.alloc _ _ = w4
  have hb4 : Below w.heap.size w w4 := by rw [← hW]; (repeat' (first | (with_reducible exact Below.refl _ _) | (with_reducible assumption) | (with_reducible refine Below.drewN ?_ _) | (with_reducible refine Below.alloc ?_ ?_ _) | (with_reducible refine Below.drew ?_) | (with_reducible refine Below.setCell ?_ ?_ _) | (with_reducible refine Below.step (by assumption) ?_ ?_) | (with_reducible exact And.left (by assumption)) | go_size))
  have x0 : w4.cell? ⟨w.heap.size, 0, none⟩ = some (.string nm) := by { rw [← hW]; clear hW; go_simp }
  have x1 : w4.cell? ⟨w.heap.size, 1, none⟩ = some (.int .i64 per) := by { rw [← hW]; clear hW; go_simp }
  have x2 : w4.cell? ⟨w.heap.size, 2, none⟩ = some (.int .i64 least) := by { rw [← hW]; clear hW; go_simp }
  have x3 : w4.cell? ⟨w.heap.size, 3, none⟩ = some (.int .i64 a) := by { rw [← hW]; clear hW; go_simp }
  have x4 : w4.cell? ⟨w.heap.size, 4, none⟩ = some (.int .i64 b) := by { rw [← hW]; clear hW; go_simp }
  have x5 : w4.cell? ⟨w.heap.size, 5, none⟩ = some (.int .i64 c) := by { rw [← hW]; clear hW; go_simp }
  have x6 : w4.cell? ⟨w.heap.size, 6, none⟩ = some (.int .i64 d) := by { rw [← hW]; clear hW; go_simp }
  have x7 : w4.cell? ⟨w.heap.size, 7, none⟩ = some (.slice ap n cp) := by { rw [← hW]; clear hW; go_simp }
  have z0 : w4.cell? ⟨w.heap.size + 1, 0, none⟩ = some (.int .i64 0) := by { rw [← hW]; clear hW; go_simp }
  have f0 : w4.frozen? ⟨w.heap.size + 1, 0, none⟩ = false := by { rw [← hW]; clear hW; go_simp }
  have z1 : w4.cell? ⟨w.heap.size + 1, 1, none⟩ = some (.int .i64 0) := by { rw [← hW]; clear hW; go_simp }
  have f1 : w4.frozen? ⟨w.heap.size + 1, 1, none⟩ = false := by { rw [← hW]; clear hW; go_simp }
  have l0 : w.heap.size < w4.heap.size := by { rw [← hW]; clear hW; simp; omega }
  have l1 : w.heap.size + 1 < w4.heap.size := by { rw [← hW]; clear hW; simp }
  have HB := Lib.hid hb4
  clear hW hb4
  refine (HS.out _ HB.out).mono ?_
  rintro e5 w5 ⟨rfl, hb5⟩
  have hz5 := hb5.size
  have x0d : w5.cell? ⟨w.heap.size, 0, none⟩ = some (.string nm) := by { rw [cellB hb5 _ _ (by first | (simp; done) | (simp; omega) | omega)]; all_goals (first | assumption | go_simp) }; have x1d : w5.cell? ⟨w.heap.size, 1, none⟩ = some (.int .i64 per) := by { rw [cellB hb5 _ _ (by first | (simp; done) | (simp; omega) | omega)]; all_goals (first | assumption | go_simp) }; have x2d : w5.cell? ⟨w.heap.size, 2, none⟩ = some (.int .i64 least) := by { rw [cellB hb5 _ _ (by first | (simp; done) | (simp; omega) | omega)]; all_goals (first | assumption | go_simp) }; have x3d : w5.cell? ⟨w.heap.size, 3, none⟩ = some (.int .i64 a) := by { rw [cellB hb5 _ _ (by first | (simp; done) | (simp; omega) | omega)]; all_goals (first | assumption | go_simp) }; have x4d : w5.cell? ⟨w.heap.size, 4, none⟩ = some (.int .i64 b) := by { rw [cellB hb5 _ _ (by first | (simp; done) | (simp; omega) | omega)]; all_goals (first | assumption | go_simp) }; have x5d : w5.cell? ⟨w.heap.size, 5, none⟩ = some (.int .i64 c) := by { rw [cellB hb5 _ _ (by first | (simp; done) | (simp; omega) | omega)]; all_goals (first | assumption | go_simp) }; have x6d : w5.cell? ⟨w.heap.size, 6, none⟩ = some (.int .i64 d) := by { rw [cellB hb5 _ _ (by first | (simp; done) | (simp; omega) | omega)]; all_goals (first | assumption | go_simp) }; have x7d : w5.cell? ⟨w.heap.size, 7, none⟩ = some (.slice ap n cp) := by { rw [cellB hb5 _ _ (by first | (simp; done) | (simp; omega) | omega)]; all_goals (first | assumption | go_simp) }; have z0d : w5.cell? ⟨w.heap.size + 1, 0, none⟩ = some (.int .i64 0) := by { rw [cellB hb5 _ _ (by first | (simp; done) | (simp; omega) | omega)]; all_goals (first | assumption | go_simp) }; have z1d : w5.cell? ⟨w.heap.size + 1, 1, none⟩ = some (.int .i64 0) := by { rw [cellB hb5 _ _ (by first | (simp; done) | (simp; omega) | omega)]; all_goals (first | assumption | go_simp) }; have f0d : w5.frozen? ⟨w.heap.size + 1, 0, none⟩ = false := by { rw [frozenB hb5 _ _ (by first | (simp; done) | (simp; omega) | omega)]; all_goals (first | assumption | go_simp) }; have f1d : w5.frozen? ⟨w.heap.size + 1, 1, none⟩ = false := by { rw [frozenB hb5 _ _ (by first | (simp; done) | (simp; omega) | omega)]; all_goals (first | assumption | go_simp) }; have l0d : w.heap.size < w5.heap.size := by { omega }; have l1d : w.heap.size + 1 < w5.heap.size := by { omega }
  have HB := Lib.hid (HB.out.trans (hb5.mono HB.out.size))
  clear hb5 hz5 HS
  clear x0 x1 x2 x3 x4 x5 x6 x7 z0 z1 f0 f1 l0 l1
  by_cases h0 : E = 0
  · have HLa := Lib.hid (HL.out h0)
    have HV2a := Lib.hid (HV2.out h0)
    have HV3a := Lib.hid (HV3.out h0)
    clear HL HV1 HV2 HV3
    subst h0
    go_wp2_with fail
    by_cases hle : least ≤ (n : Int)
    · rw [if_pos hle] at HLa
      obtain ⟨hv, hq, ha, hb, hc, hd, m1, m2, m3, m4⟩ := HV3a.out hle
      simp only [Prod.mk.injEq] at hv
      obtain ⟨⟨rfl, rfl⟩, rfl⟩ := hv
      have HF := Lib.hid (fun w' => floor_pos (q * a) b w' (by omega) (by omega) (by omega) (by omega))
      have HC := Lib.hid (fun w' => ceilB_any (q * c) d w' (by omega) (by omega) (by omega) (by omega))
      have u3 : IntKind.i64.wrap (q * a) = q * a := by rw [IntKind.wrap_i64]; omega
      have u4 : IntKind.i64.wrap (q * c) = q * c := by rw [IntKind.wrap_i64]; omega
      clear HV2a HV3a hq ha hb hc hd hle
      refine (HLa.out _ HB.out).mono ?_
      rintro e6 w6 ⟨rfl, hb6⟩
      have hz6 := hb6.size
      have x0 : w6.cell? ⟨w.heap.size, 0, none⟩ = some (.string nm) := by { rw [cellB hb6 _ _ (by first | (simp; done) | (simp; omega) | omega)]; all_goals (first | assumption | go_simp) }; have x1 : w6.cell? ⟨w.heap.size, 1, none⟩ = some (.int .i64 per) := by { rw [cellB hb6 _ _ (by first | (simp; done) | (simp; omega) | omega)]; all_goals (first | assumption | go_simp) }; have x2 : w6.cell? ⟨w.heap.size, 2, none⟩ = some (.int .i64 least) := by { rw [cellB hb6 _ _ (by first | (simp; done) | (simp; omega) | omega)]; all_goals (first | assumption | go_simp) }; have x3 : w6.cell? ⟨w.heap.size, 3, none⟩ = some (.int .i64 a) := by { rw [cellB hb6 _ _ (by first | (simp; done) | (simp; omega) | omega)]; all_goals (first | assumption | go_simp) }; have x4 : w6.cell? ⟨w.heap.size, 4, none⟩ = some (.int .i64 b) := by { rw [cellB hb6 _ _ (by first | (simp; done) | (simp; omega) | omega)]; all_goals (first | assumption | go_simp) }; have x5 : w6.cell? ⟨w.heap.size, 5, none⟩ = some (.int .i64 c) := by { rw [cellB hb6 _ _ (by first | (simp; done) | (simp; omega) | omega)]; all_goals (first | assumption | go_simp) }; have x6 : w6.cell? ⟨w.heap.size, 6, none⟩ = some (.int .i64 d) := by { rw [cellB hb6 _ _ (by first | (simp; done) | (simp; omega) | omega)]; all_goals (first | assumption | go_simp) }; have x7 : w6.cell? ⟨w.heap.size, 7, none⟩ = some (.slice ap n cp) := by { rw [cellB hb6 _ _ (by first | (simp; done) | (simp; omega) | omega)]; all_goals (first | assumption | go_simp) }; have z0 : w6.cell? ⟨w.heap.size + 1, 0, none⟩ = some (.int .i64 0) := by { rw [cellB hb6 _ _ (by first | (simp; done) | (simp; omega) | omega)]; all_goals (first | assumption | go_simp) }; have z1 : w6.cell? ⟨w.heap.size + 1, 1, none⟩ = some (.int .i64 0) := by { rw [cellB hb6 _ _ (by first | (simp; done) | (simp; omega) | omega)]; all_goals (first | assumption | go_simp) }; have f0 : w6.frozen? ⟨w.heap.size + 1, 0, none⟩ = false := by { rw [frozenB hb6 _ _ (by first | (simp; done) | (simp; omega) | omega)]; all_goals (first | assumption | go_simp) }; have f1 : w6.frozen? ⟨w.heap.size + 1, 1, none⟩ = false := by { rw [frozenB hb6 _ _ (by first | (simp; done) | (simp; omega) | omega)]; all_goals (first | assumption | go_simp) }; have l0 : w.heap.size < w6.heap.size := by { omega }; have l1 : w.heap.size + 1 < w6.heap.size := by { omega }
      have HB := Lib.hid (HB.out.trans (hb6.mono HB.out.size))
      clear hb6 hz6 HLa
      clear x0d x1d x2d x3d x4d x5d x6d x7d z0d z1d f0d f1d l0d l1d
      go_wp2_with fail
      generalize hW : World.alloc _ _ = w7
      have hb7 : Below w6.heap.size w6 w7 := by rw [← hW]; (repeat' (first | (with_reducible exact Below.refl _ _) | (with_reducible assumption) | (with_reducible refine Below.drewN ?_ _) | (with_reducible refine Below.alloc ?_ ?_ _) | (with_reducible refine Below.drew ?_) | (with_reducible refine Below.setCell ?_ ?_ _) | (with_reducible refine Below.step (by assumption) ?_ ?_) | (with_reducible exact And.left (by assumption)) | go_size))
      have y0 : w7.cell? ⟨w6.heap.size, 0, none⟩ = some (.int .i64 a) := by { rw [← hW]; clear hW; go_simp }
      have y1 : w7.cell? ⟨w6.heap.size, 1, none⟩ = some (.int .i64 b) := by { rw [← hW]; clear hW; go_simp }
      have y2 : w7.cell? ⟨w6.heap.size, 2, none⟩ = some (.int .i64 c) := by { rw [← hW]; clear hW; go_simp }
      have y3 : w7.cell? ⟨w6.heap.size, 3, none⟩ = some (.int .i64 d) := by { rw [← hW]; clear hW; go_simp }
      have ly : w6.heap.size < w7.heap.size := by { rw [← hW]; clear hW; simp }
      have hzx := hb7.size
      have z0d : w7.cell? ⟨w.heap.size + 1, 0, none⟩ = some (.int .i64 0) := by { rw [cellB hb7 _ _ (by first | (simp; done) | (simp; omega) | omega)]; all_goals (first | assumption | go_simp) }; have z1d : w7.cell? ⟨w.heap.size + 1, 1, none⟩ = some (.int .i64 0) := by { rw [cellB hb7 _ _ (by first | (simp; done) | (simp; omega) | omega)]; all_goals (first | assumption | go_simp) }; have f0d : w7.frozen? ⟨w.heap.size + 1, 0, none⟩ = false := by { rw [frozenB hb7 _ _ (by first | (simp; done) | (simp; omega) | omega)]; all_goals (first | assumption | go_simp) }; have f1d : w7.frozen? ⟨w.heap.size + 1, 1, none⟩ = false := by { rw [frozenB hb7 _ _ (by first | (simp; done) | (simp; omega) | omega)]; all_goals (first | assumption | go_simp) }; have l1d : w.heap.size + 1 < w7.heap.size := by { omega }
      have HB := Lib.hid (HB.out.trans (hb7.mono HB.out.size))
      obtain ⟨X7, hX7⟩ : ∃ X, X = w6.heap.size := ⟨_, rfl⟩
      have hne : X7 ≠ w.heap.size + 1 := by omega
      have ok7 : OkB X7 w7.heap.size (w.heap.size + 1) := ⟨by omega, hne⟩
      have ok0 : OkB (w.heap.size) w7.heap.size (w.heap.size + 1) := ⟨by omega, by omega⟩
      rw [← hX7] at y0 y1 y2 y3 ly ⊢
      clear hW hb7 hX7 x0 x1 x2 x3 x4 x5 x6 x7 l0 z0 z1 f0 f1 l1
      refine wp_region_laterC (B := w7.heap.size) (b0 :=  w.heap.size + 1) [(true, 0), (true, 1), (true, 2), (true, 3), (true, 4), (true, 5), (true, 6), (true, 7), (true, 9), (true, 10), (true, 11), (true, 12), (true, 13), (true, 14), (true, 15), (true, 16), (false, 8), (false, 17), (true, 18), (false, 19), (true, 20)] (by kernel_rfl) (by kernel_rfl) ?_; simp only [opsOf, List.filterMap_cons, List.filterMap_nil, List.getElem?_toArray, List.getElem?_cons_zero, List.getElem?_cons_succ, Option.map_some]
      repeat (refine mixc_head ?_; (show wpQuiet _ _ _ _ (_ :: _) _; go_big_quiet_step (fail)); refine wpQuiet_nil ?_)
      refine mixc_tail ?_; go_wp2_with fail
      refine (HF.out _).mono ?_
      rintro e9 w9 ⟨rfl, rfl⟩
      go_wp2_with fail
      refine tailC_stay (SameX.of_below (Below.refl _ _).drew) ?_
      repeat (refine mixc_head ?_; (show wpQuiet _ _ _ _ (_ :: _) _; go_big_quiet_step (fail)); refine wpQuiet_nil ?_)
      refine mixc_tail ?_; go_wp2_with fail
      refine (HC.out _).mono ?_
      rintro e9 w9 ⟨rfl, rfl⟩
      go_wp2_with fail
      refine tailC_stay (SameX.of_below (Below.refl _ _).drew) ?_
      repeat (refine mixc_head ?_; (show wpQuiet _ _ _ _ (_ :: _) _; go_big_quiet_step (fail)); refine wpQuiet_nil ?_)
      refine mixc_tail ?_; go_wp2_with fail
      refine tailC_stay (.set (.set (SameX.of_below (Below.refl _ _).drew) _) _) ?_
      repeat (refine mixc_head ?_; (show wpQuiet _ _ _ _ (_ :: _) _; go_big_quiet_step (fail)); refine wpQuiet_nil ?_)
      refine mixc_nil ?_
      go_wp2_with fail
      generalize hW : World.setCell _ _ _ = w12
      have r0 : w12.cell? ⟨w.heap.size + 1, 0, none⟩ = some (.int .i64 (q * a / b)) := by { rw [← hW]; clear hW; go_simp }
      have r1 : w12.cell? ⟨w.heap.size + 1, 1, none⟩ = some (.int .i64 (-(-(q * c) / d))) := by { rw [← hW]; clear hW; go_simp }
      have hb12 : Below w.heap.size w w12 := by { rw [← hW]; have := HB.out; (repeat' (first | (with_reducible exact Below.refl _ _) | (with_reducible assumption) | (with_reducible refine Below.drewN ?_ _) | (with_reducible refine Below.alloc ?_ ?_ _) | (with_reducible refine Below.drew ?_) | (with_reducible refine Below.setCell ?_ ?_ _) | (with_reducible refine Below.step (by assumption) ?_ ?_) | (with_reducible exact And.left (by assumption)) | go_size)) }
      clear hW
      exact bodyPost_ret (v := .tuple #[.agg #[.int .i64 (q * a / b), .int .i64 (-(-(q * c) / d))], .int .i64 0]) (by simp [results, Tryz.results31, go_sem, r0, r1]) rfl ⟨rfl, hb12.drew⟩
    · rw [if_neg hle] at HLa
      have hv := HV2a.out (by omega)
      simp only [Prod.mk.injEq] at hv
      obtain ⟨⟨rfl, rfl⟩, rfl⟩ := hv
      clear HV2a HV3a hle
      refine (HLa.out _ HB.out).mono ?_
      rintro e6 w6 ⟨rfl, hb6⟩
      have hz6 := hb6.size
      have x0 : w6.cell? ⟨w.heap.size, 0, none⟩ = some (.string nm) := by { rw [cellB hb6 _ _ (by first | (simp; done) | (simp; omega) | omega)]; all_goals (first | assumption | go_simp) }; have x1 : w6.cell? ⟨w.heap.size, 1, none⟩ = some (.int .i64 per) := by { rw [cellB hb6 _ _ (by first | (simp; done) | (simp; omega) | omega)]; all_goals (first | assumption | go_simp) }; have x2 : w6.cell? ⟨w.heap.size, 2, none⟩ = some (.int .i64 least) := by { rw [cellB hb6 _ _ (by first | (simp; done) | (simp; omega) | omega)]; all_goals (first | assumption | go_simp) }; have x3 : w6.cell? ⟨w.heap.size, 3, none⟩ = some (.int .i64 a) := by { rw [cellB hb6 _ _ (by first | (simp; done) | (simp; omega) | omega)]; all_goals (first | assumption | go_simp) }; have x4 : w6.cell? ⟨w.heap.size, 4, none⟩ = some (.int .i64 b) := by { rw [cellB hb6 _ _ (by first | (simp; done) | (simp; omega) | omega)]; all_goals (first | assumption | go_simp) }; have x5 : w6.cell? ⟨w.heap.size, 5, none⟩ = some (.int .i64 c) := by { rw [cellB hb6 _ _ (by first | (simp; done) | (simp; omega) | omega)]; all_goals (first | assumption | go_simp) }; have x6 : w6.cell? ⟨w.heap.size, 6, none⟩ = some (.int .i64 d) := by { rw [cellB hb6 _ _ (by first | (simp; done) | (simp; omega) | omega)]; all_goals (first | assumption | go_simp) }; have x7 : w6.cell? ⟨w.heap.size, 7, none⟩ = some (.slice ap n cp) := by { rw [cellB hb6 _ _ (by first | (simp; done) | (simp; omega) | omega)]; all_goals (first | assumption | go_simp) }; have z0 : w6.cell? ⟨w.heap.size + 1, 0, none⟩ = some (.int .i64 0) := by { rw [cellB hb6 _ _ (by first | (simp; done) | (simp; omega) | omega)]; all_goals (first | assumption | go_simp) }; have z1 : w6.cell? ⟨w.heap.size + 1, 1, none⟩ = some (.int .i64 0) := by { rw [cellB hb6 _ _ (by first | (simp; done) | (simp; omega) | omega)]; all_goals (first | assumption | go_simp) }; have f0 : w6.frozen? ⟨w.heap.size + 1, 0, none⟩ = false := by { rw [frozenB hb6 _ _ (by first | (simp; done) | (simp; omega) | omega)]; all_goals (first | assumption | go_simp) }; have f1 : w6.frozen? ⟨w.heap.size + 1, 1, none⟩ = false := by { rw [frozenB hb6 _ _ (by first | (simp; done) | (simp; omega) | omega)]; all_goals (first | assumption | go_simp) }; have l0 : w.heap.size < w6.heap.size := by { omega }; have l1 : w.heap.size + 1 < w6.heap.size := by { omega }
      have HB := Lib.hid (HB.out.trans (hb6.mono HB.out.size))
      clear hb6 hz6 HLa
      clear x0d x1d x2d x3d x4d x5d x6d x7d z0d z1d f0d f1d l0d l1d
      go_wp2_with fail
      generalize hW : World.setCell _ _ _ = w9
      have r0 : w9.cell? ⟨w.heap.size + 1, 0, none⟩ = some (.int .i64 0) := by { rw [← hW]; clear hW; go_simp }
      have r1 : w9.cell? ⟨w.heap.size + 1, 1, none⟩ = some (.int .i64 0) := by { rw [← hW]; clear hW; go_simp }
      have hb9 : Below w.heap.size w w9 := by { rw [← hW]; have := HB.out; (repeat' (first | (with_reducible exact Below.refl _ _) | (with_reducible assumption) | (with_reducible refine Below.drewN ?_ _) | (with_reducible refine Below.alloc ?_ ?_ _) | (with_reducible refine Below.drew ?_) | (with_reducible refine Below.setCell ?_ ?_ _) | (with_reducible refine Below.step (by assumption) ?_ ?_) | (with_reducible exact And.left (by assumption)) | go_size)) }
      clear hW
      exact bodyPost_ret (v := .tuple #[.agg #[.int .i64 0, .int .i64 0], .int .i64 12]) (by simp [results, Tryz.results31, go_sem, r0, r1]) rfl ⟨rfl, hb9⟩
  · have hv := HV1.out h0
    simp only [Prod.mk.injEq] at hv
    obtain ⟨⟨rfl, rfl⟩, rfl⟩ := hv
    have u1 := bne_iff_ne.2 h0
    clear HL HV1 HV2 HV3 h0
    go_wp2_with fail
    generalize hW : World.setCell _ _ _ = w9
    have r0 : w9.cell? ⟨w.heap.size + 1, 0, none⟩ = some (.int .i64 0) := by { rw [← hW]; clear hW; go_simp }
    have r1 : w9.cell? ⟨w.heap.size + 1, 1, none⟩ = some (.int .i64 0) := by { rw [← hW]; clear hW; go_simp }
    have hb9 : Below w.heap.size w w9 := by { rw [← hW]; have := HB.out; (repeat' (first | (with_reducible exact Below.refl _ _) | (with_reducible assumption) | (with_reducible refine Below.drewN ?_ _) | (with_reducible refine Below.alloc ?_ ?_ _) | (with_reducible refine Below.drew ?_) | (with_reducible refine Below.setCell ?_ ?_ _) | (with_reducible refine Below.step (by assumption) ?_ ?_) | (with_reducible exact And.left (by assumption)) | go_size)) }
    clear hW
    exact bodyPost_ret (v := .tuple #[.agg #[.int .i64 0, .int .i64 0], .int .i64 _]) (by simp [results, Tryz.results31, go_sem, r0, r1]) rfl ⟨rfl, hb9⟩
set_option maxHeartbeats 2000000 in
set_option maxRecDepth 100000 in
theorem rCalibrationOf_any (l : List Int) (lo hi : Int) (a : Option Addr) (n c : Nat) (w : World) (hl : IntsR w a n l) :
    Calls Tryz.prog 32 #[.slice a n c, .agg #[.int .i64 lo, .int .i64 hi]] w
      fun e' w' => e' = .returned (.tuple #[.agg #[.int .i64 (calOf l lo hi).1.1.1, .int .i64 (calOf l lo hi).1.1.2, .int .i64 (calOf l lo hi).1.2.1, .int .i64 (calOf l lo hi).1.2.2], .int .i64 (calOf l lo hi).2]) ∧ Below w.heap.size w w' := by
  have hn := hl.small
  have HL := Lib.hid hl
  have HLN := Lib.hid hl.len
  have HX := Lib.hid (fun (x a b : Int) w' => bwithin_any x a b w')
  have HE := Lib.hid (show cbE l lo hi = firstErr [unl (decide (0 < n)) 10, unl (decide ((n : Int) ≤ 60)) 8, unl (!l.any (fun n => !wi n 1 4096)) 2, firstErr [unl (wi lo 1 1000000 && wi hi 1 1000000) 2, unl (decide (lo ≤ hi)) 9]] by
    unfold cbE rngEE; rw [hl.len])
  have HVE := Lib.hid (show ∀ e, cbE l lo hi = e → e ≠ 0 → calOf l lo hi = (((0, 0), (0, 0)), e) from fun e h h0 => by unfold calOf; rw [if_pos (by rw [h]; exact h0), h])
  have HVO := Lib.hid (show cbE l lo hi = 0 → calOf l lo hi = (((lo.tdiv (gc lo (mx l)), mx l / gc lo (mx l)), (hi.tdiv (gc hi (mn l)), mn l / gc hi (mn l))), 0) ∧ (1 ≤ lo ∧ lo ≤ 1000000) ∧ (1 ≤ hi ∧ hi ≤ 1000000) ∧ (1 ≤ mx l ∧ mx l ≤ 4096) ∧ (1 ≤ mn l ∧ mn l ≤ 4096) from fun h => by
    obtain ⟨h1, h2, h3, h4⟩ := cbE_zero h
    have h5 := mxU_bd h3 l.length h1 (Nat.le_refl _)
    have h6 := mnU_bd h3 l.length h1 (Nat.le_refl _)
    rw [mxU_all rfl] at h5
    rw [mnU_all rfl] at h6
    refine ⟨?_, by omega, by omega, h5, h6⟩
    unfold calOf; rw [if_neg (by rw [h]; decide)]; rfl)
  generalize calOf l lo hi = V at *
  obtain ⟨⟨⟨V1, V2⟩, V3, V4⟩, V5⟩ := V
  generalize cbE l lo hi = E at *
  simp only
  clear hl
  by_cases hn0 : n = 0
  · have u1 : ((n : Int) == 0) = true := by simp; omega
    have HN0 := Lib.hid hn0
    clear hn0
    obtain ⟨⟨⟨rfl, rfl⟩, rfl, rfl⟩, rfl⟩ : (((0 = V1 ∧ 0 = V2) ∧ 0 = V3 ∧ 0 = V4) ∧ 10 = V5) := by have := HVE.out 10 (by rw [HE.out]; simp [firstErr, unl, HN0.out]) (by decide); simp only [Prod.mk.injEq] at this; obtain ⟨⟨⟨h1, h2⟩, h3, h4⟩, h5⟩ := this; exact ⟨⟨⟨h1.symm, h2.symm⟩, h3.symm, h4.symm⟩, h5.symm⟩
    go_enter Tryz.func32, Tryz.ntmps32
    go_wp2_with fail
    exact bodyPost_ret (v := .tuple #[.agg #[.int .i64 0, .int .i64 0, .int .i64 0, .int .i64 0], .int .i64 10]) (by simp [results, Tryz.results32, go_sem]) rfl ⟨rfl, by (repeat' (first | (with_reducible exact Below.refl _ _) | (with_reducible assumption) | (with_reducible refine Below.drewN ?_ _) | (with_reducible refine Below.alloc ?_ ?_ _) | (with_reducible refine Below.drew ?_) | (with_reducible refine Below.setCell ?_ ?_ _) | (with_reducible refine Below.step (by assumption) ?_ ?_) | (with_reducible exact And.left (by assumption)) | go_size))⟩
  have u1 : ((n : Int) == 0) = false := by simp; omega
  by_cases hn6 : n ≤ 60
  · have u2 : (60 < (n : Int)) = False := by simp; omega
    have u2' : decide (60 < (n : Int)) = false := decide_eq_false (by omega)
    have hp : (0 : Int) < (n : Int) := by omega
    obtain ⟨b0, o0, rfl, hb0, hc⟩ := HL.out.addr (by omega)
    have c0 := hc 0 (by omega)
    rw [Nat.add_zero, ← headD_get] at c0
    have HC := Lib.hid hc
    have H0 := Lib.hid (mxU_zero l).symm
    have H1 := Lib.hid (mnU_zero l).symm
    have HN := Lib.hid (And.intro (show 0 < n by omega) (show (n : Int) ≤ 60 by omega))
    generalize l.headD 0 = y at *
    clear hc hn0 hn6
    go_enter Tryz.func32, Tryz.ntmps32
    go_wp2_with fail
    generalize hW : World.alloc _ _ = w4
    have hb4 : Below w.heap.size w w4 := by rw [← hW]; (repeat' (first | (with_reducible exact Below.refl _ _) | (with_reducible assumption) | (with_reducible refine Below.drewN ?_ _) | (with_reducible refine Below.alloc ?_ ?_ _) | (with_reducible refine Below.drew ?_) | (with_reducible refine Below.setCell ?_ ?_ _) | (with_reducible refine Below.step (by assumption) ?_ ?_) | (with_reducible exact And.left (by assumption)) | go_size))
    have x0 : w4.cell? ⟨w.heap.size, 0, none⟩ = some (.int .i64 lo) := by { rw [← hW]; clear hW; go_simp }
    have x1 : w4.cell? ⟨w.heap.size, 1, none⟩ = some (.int .i64 hi) := by { rw [← hW]; clear hW; go_simp }
    have z0 : w4.cell? ⟨w.heap.size + 1, 0, none⟩ = some (.int .i64 0) := by { rw [← hW]; clear hW; go_simp }
    have f0 : w4.frozen? ⟨w.heap.size + 1, 0, none⟩ = false := by { rw [← hW]; clear hW; go_simp }
    have z1 : w4.cell? ⟨w.heap.size + 1, 1, none⟩ = some (.int .i64 0) := by { rw [← hW]; clear hW; go_simp }
    have f1 : w4.frozen? ⟨w.heap.size + 1, 1, none⟩ = false := by { rw [← hW]; clear hW; go_simp }
    have z2 : w4.cell? ⟨w.heap.size + 1, 2, none⟩ = some (.int .i64 0) := by { rw [← hW]; clear hW; go_simp }
    have f2 : w4.frozen? ⟨w.heap.size + 1, 2, none⟩ = false := by { rw [← hW]; clear hW; go_simp }
    have z3 : w4.cell? ⟨w.heap.size + 1, 3, none⟩ = some (.int .i64 0) := by { rw [← hW]; clear hW; go_simp }
    have f3 : w4.frozen? ⟨w.heap.size + 1, 3, none⟩ = false := by { rw [← hW]; clear hW; go_simp }
    have l0 : w.heap.size < w4.heap.size := by { rw [← hW]; clear hW; simp; omega }
    have l1 : w.heap.size + 1 < w4.heap.size := by { rw [← hW]; clear hW; simp }
    have HB := Lib.hid hb4
    clear hW hb4
    have hbq := HB.out
    have c0d : w4.cell? ⟨b0, o0, none⟩ = some (.int .i64 y) := by { rw [cellB hbq _ _ (by first | (simp; done) | (simp; omega) | omega)]; all_goals (first | assumption | go_simp) }; have hb0d : b0 < w4.heap.size := by { omega }
    clear hbq
    go_quiet (fail)
    go_wp2_with fail
    go_loopw [6, 7, 8] (fun u v i wr => ∃ (k : Nat) (mi ma : Int), i = .int .i64 (k : Int) ∧ u = .int .i64 mi ∧ v = .int .i64 ma ∧ k ≤ n ∧ Hid (mi = mnU l k) ∧ Hid (ma = mxU l k) ∧ Hid (∀ j, j < k → wi (l.getD j 0) 1 4096 = true) ∧ Hid (Below w4.heap.size w4 wr)) (fun _ _ i _ => n - (intOf i).toNat)
    case atStart => exact ⟨0, y, y, rfl, rfl, rfl, Nat.zero_le _, H1, H0, Lib.hid (fun j hj => absurd hj (by omega)), Lib.hid ((Below.refl _ _).drewN _)⟩
    case round =>
      obtain ⟨k, mi, ma, rfl, rfl, rfl, hk, hmi, hma, hR, hB⟩ := hrel
      have i0 : (0 : Int) ≤ (k : Int) := by omega
      have hbr := hB.out
      have hzx := hbr.size
      have x0d : wr.cell? ⟨w.heap.size, 0, none⟩ = some (.int .i64 lo) := by { rw [cellB hbr _ _ (by first | (simp; done) | (simp; omega) | omega)]; all_goals (first | assumption | go_simp) }; have x1d : wr.cell? ⟨w.heap.size, 1, none⟩ = some (.int .i64 hi) := by { rw [cellB hbr _ _ (by first | (simp; done) | (simp; omega) | omega)]; all_goals (first | assumption | go_simp) }; have z0d : wr.cell? ⟨w.heap.size + 1, 0, none⟩ = some (.int .i64 0) := by { rw [cellB hbr _ _ (by first | (simp; done) | (simp; omega) | omega)]; all_goals (first | assumption | go_simp) }; have z1d : wr.cell? ⟨w.heap.size + 1, 1, none⟩ = some (.int .i64 0) := by { rw [cellB hbr _ _ (by first | (simp; done) | (simp; omega) | omega)]; all_goals (first | assumption | go_simp) }; have z2d : wr.cell? ⟨w.heap.size + 1, 2, none⟩ = some (.int .i64 0) := by { rw [cellB hbr _ _ (by first | (simp; done) | (simp; omega) | omega)]; all_goals (first | assumption | go_simp) }; have z3d : wr.cell? ⟨w.heap.size + 1, 3, none⟩ = some (.int .i64 0) := by { rw [cellB hbr _ _ (by first | (simp; done) | (simp; omega) | omega)]; all_goals (first | assumption | go_simp) }; have f0d : wr.frozen? ⟨w.heap.size + 1, 0, none⟩ = false := by { rw [frozenB hbr _ _ (by first | (simp; done) | (simp; omega) | omega)]; all_goals (first | assumption | go_simp) }; have f1d : wr.frozen? ⟨w.heap.size + 1, 1, none⟩ = false := by { rw [frozenB hbr _ _ (by first | (simp; done) | (simp; omega) | omega)]; all_goals (first | assumption | go_simp) }; have f2d : wr.frozen? ⟨w.heap.size + 1, 2, none⟩ = false := by { rw [frozenB hbr _ _ (by first | (simp; done) | (simp; omega) | omega)]; all_goals (first | assumption | go_simp) }; have f3d : wr.frozen? ⟨w.heap.size + 1, 3, none⟩ = false := by { rw [frozenB hbr _ _ (by first | (simp; done) | (simp; omega) | omega)]; all_goals (first | assumption | go_simp) }; have l0d : w.heap.size < wr.heap.size := by { omega }; have l1d : w.heap.size + 1 < wr.heap.size := by { omega }
      have HB := Lib.hid (HB.out.trans (hbr.mono HB.out.size))
      clear hzx x0 x1 z0 z1 z2 z3 f0 f1 f2 f3 l0 l1
      clear hbr c0d hb0d c0
      by_cases hlt : k < n
      · have i1 : (k : Int) < (n : Int) := by omega
        have ck := HC.out k hlt
        have hbx := HB.out
        have ckd : wr.cell? ⟨b0, o0 + k, none⟩ = some (.int .i64 (l.getD k 0)) := by { rw [cellB hbx _ _ (by first | (simp; done) | (simp; omega) | omega)]; all_goals (first | assumption | go_simp) }; have hb0d : b0 < wr.heap.size := by { omega }
        clear hbx ck
        have hs1 := mnU_step (l := l) (k := k) (by rw [HLN.out]; exact hlt)
        have hs2 := mxU_step (l := l) (k := k) (by rw [HLN.out]; exact hlt)
        rw [← hmi.out] at hs1
        rw [← hma.out] at hs2
        have HXX := Lib.hid (HX.out (l.getD k 0) 1 4096)
        have HM := Lib.hid (show l.getD k 0 ∈ l from getD_mem (by rw [HLN.out]; exact hlt))
        have HR2 := Lib.hid (show wi (l.getD k 0) 1 4096 = true → ∀ j, j < k + 1 → wi (l.getD j 0) 1 4096 = true from fun h j hj => by
          rcases Nat.lt_or_ge j k with h2 | h2
          · exact hR.out j h2
          · obtain rfl : j = k := by omega
            exact h)
        generalize l.getD k 0 = x at *
        have HS1 := Lib.hid hs1.symm
        have HS2 := Lib.hid hs2.symm
        clear hs1 hs2 hR
        cases hwx : wi x 1 4096
        · have hany : l.any (fun n => !wi n 1 4096) = true := by rw [List.any_eq_true]; exact ⟨x, HM.out, by rw [hwx]; rfl⟩
          have HA := Lib.hid hany
          rw [hwx] at HXX
          clear hwx HR2 hany
          go_wp2_with fail
          refine (HXX.out _).mono ?_
          rintro e5 w5 ⟨rfl, rfl⟩
          obtain ⟨⟨⟨rfl, rfl⟩, rfl, rfl⟩, rfl⟩ : (((0 = V1 ∧ 0 = V2) ∧ 0 = V3 ∧ 0 = V4) ∧ 2 = V5) := by have := HVE.out 2 (by rw [HE.out]; simp [firstErr, unl, HA.out, decide_eq_true HN.out.1, decide_eq_true HN.out.2]) (by decide); simp only [Prod.mk.injEq] at this; obtain ⟨⟨⟨h1, h2⟩, h3, h4⟩, h5⟩ := this; exact ⟨⟨⟨h1.symm, h2.symm⟩, h3.symm, h4.symm⟩, h5.symm⟩
          go_wp2_with fail
          generalize hW : World.setCell _ _ _ = w9
          have r0 : w9.cell? ⟨w.heap.size + 1, 0, none⟩ = some (.int .i64 0) := by { rw [← hW]; clear hW; go_simp }
          have r1 : w9.cell? ⟨w.heap.size + 1, 1, none⟩ = some (.int .i64 0) := by { rw [← hW]; clear hW; go_simp }
          have r2 : w9.cell? ⟨w.heap.size + 1, 2, none⟩ = some (.int .i64 0) := by { rw [← hW]; clear hW; go_simp }
          have r3 : w9.cell? ⟨w.heap.size + 1, 3, none⟩ = some (.int .i64 0) := by { rw [← hW]; clear hW; go_simp }
          have hb9 : Below w.heap.size w w9 := by { rw [← hW]; have := HB.out; (repeat' (first | (with_reducible exact Below.refl _ _) | (with_reducible assumption) | (with_reducible refine Below.drewN ?_ _) | (with_reducible refine Below.alloc ?_ ?_ _) | (with_reducible refine Below.drew ?_) | (with_reducible refine Below.setCell ?_ ?_ _) | (with_reducible refine Below.step (by assumption) ?_ ?_) | (with_reducible exact And.left (by assumption)) | go_size)) }
          clear hW
          exact bodyPost_ret (v := .tuple #[.agg #[.int .i64 0, .int .i64 0, .int .i64 0, .int .i64 0], .int .i64 2]) (by simp [results, Tryz.results32, go_sem, r0, r1, r2, r3]) rfl ⟨rfl, hb9⟩
        · rw [hwx] at HXX
          have HR3 := Lib.hid (HR2.out hwx)
          clear hwx HR2
          go_wp2_with fail
          refine (HXX.out _).mono ?_
          rintro e5 w5 ⟨rfl, rfl⟩
          go_wp2_with fail
          go_quiet (fail)
          go_wp2
          go_roundw
          case rel => exact ⟨k + 1, _, _, by go_num, rfl, rfl, by omega, HS1, HS2, HR3, Lib.hid (hB.out.drewN _)⟩
          case measure => simp [intOf]; omega
      · obtain rfl : k = n := by omega
        have HA := Lib.hid (show l.any (fun n => !wi n 1 4096) = false by
          rw [List.any_eq_false]
          intro x hx
          obtain ⟨j, hj, rfl⟩ := List.mem_iff_getElem.1 hx
          have := hR.out j (by rw [← HLN.out]; exact hj)
          rw [List.getD_eq_getElem?_getD, List.getElem?_eq_getElem hj] at this
          simp only [Option.getD_some] at this
          rw [this]; decide)
        have HMI := Lib.hid (hmi.out.trans (mnU_all HLN.out))
        have HMA := Lib.hid (hma.out.trans (mxU_all HLN.out))
        have HW1 := Lib.hid (HX.out lo 1 1000000)
        have HW2 := Lib.hid (HX.out hi 1 1000000)
        clear hR hmi hma
        rw [← HMI.out, ← HMA.out] at HVO
        generalize wi lo 1 1000000 = W1 at *
        generalize wi hi 1 1000000 = W2 at *
        go_wp2_with fail
        refine (HW1.out _).mono ?_
        rintro e5 w5 ⟨rfl, rfl⟩
        cases W1
        · skip
          obtain ⟨⟨⟨rfl, rfl⟩, rfl, rfl⟩, rfl⟩ : (((0 = V1 ∧ 0 = V2) ∧ 0 = V3 ∧ 0 = V4) ∧ 2 = V5) := by have := HVE.out 2 (by rw [HE.out]; simp [firstErr, unl, HA.out, decide_eq_true HN.out.1, decide_eq_true HN.out.2]) (by decide); simp only [Prod.mk.injEq] at this; obtain ⟨⟨⟨h1, h2⟩, h3, h4⟩, h5⟩ := this; exact ⟨⟨⟨h1.symm, h2.symm⟩, h3.symm, h4.symm⟩, h5.symm⟩
          go_wp2_with fail
          generalize hW : World.setCell _ _ _ = w9
          have r0 : w9.cell? ⟨w.heap.size + 1, 0, none⟩ = some (.int .i64 0) := by { rw [← hW]; clear hW; go_simp }
          have r1 : w9.cell? ⟨w.heap.size + 1, 1, none⟩ = some (.int .i64 0) := by { rw [← hW]; clear hW; go_simp }
          have r2 : w9.cell? ⟨w.heap.size + 1, 2, none⟩ = some (.int .i64 0) := by { rw [← hW]; clear hW; go_simp }
          have r3 : w9.cell? ⟨w.heap.size + 1, 3, none⟩ = some (.int .i64 0) := by { rw [← hW]; clear hW; go_simp }
          have hb9 : Below w.heap.size w w9 := by { rw [← hW]; have := HB.out; (repeat' (first | (with_reducible exact Below.refl _ _) | (with_reducible assumption) | (with_reducible refine Below.drewN ?_ _) | (with_reducible refine Below.alloc ?_ ?_ _) | (with_reducible refine Below.drew ?_) | (with_reducible refine Below.setCell ?_ ?_ _) | (with_reducible refine Below.step (by assumption) ?_ ?_) | (with_reducible exact And.left (by assumption)) | go_size)) }
          clear hW
          exact bodyPost_ret (v := .tuple #[.agg #[.int .i64 0, .int .i64 0, .int .i64 0, .int .i64 0], .int .i64 2]) (by simp [results, Tryz.results32, go_sem, r0, r1, r2, r3]) rfl ⟨rfl, hb9⟩
        go_wp2_with fail
        refine (HW2.out _).mono ?_
        rintro e5 w5 ⟨rfl, rfl⟩
        cases W2
        · skip
          obtain ⟨⟨⟨rfl, rfl⟩, rfl, rfl⟩, rfl⟩ : (((0 = V1 ∧ 0 = V2) ∧ 0 = V3 ∧ 0 = V4) ∧ 2 = V5) := by have := HVE.out 2 (by rw [HE.out]; simp [firstErr, unl, HA.out, decide_eq_true HN.out.1, decide_eq_true HN.out.2]) (by decide); simp only [Prod.mk.injEq] at this; obtain ⟨⟨⟨h1, h2⟩, h3, h4⟩, h5⟩ := this; exact ⟨⟨⟨h1.symm, h2.symm⟩, h3.symm, h4.symm⟩, h5.symm⟩
          go_wp2_with fail
          generalize hW : World.setCell _ _ _ = w9
          have r0 : w9.cell? ⟨w.heap.size + 1, 0, none⟩ = some (.int .i64 0) := by { rw [← hW]; clear hW; go_simp }
          have r1 : w9.cell? ⟨w.heap.size + 1, 1, none⟩ = some (.int .i64 0) := by { rw [← hW]; clear hW; go_simp }
          have r2 : w9.cell? ⟨w.heap.size + 1, 2, none⟩ = some (.int .i64 0) := by { rw [← hW]; clear hW; go_simp }
          have r3 : w9.cell? ⟨w.heap.size + 1, 3, none⟩ = some (.int .i64 0) := by { rw [← hW]; clear hW; go_simp }
          have hb9 : Below w.heap.size w w9 := by { rw [← hW]; have := HB.out; (repeat' (first | (with_reducible exact Below.refl _ _) | (with_reducible assumption) | (with_reducible refine Below.drewN ?_ _) | (with_reducible refine Below.alloc ?_ ?_ _) | (with_reducible refine Below.drew ?_) | (with_reducible refine Below.setCell ?_ ?_ _) | (with_reducible refine Below.step (by assumption) ?_ ?_) | (with_reducible exact And.left (by assumption)) | go_size)) }
          clear hW
          exact bodyPost_ret (v := .tuple #[.agg #[.int .i64 0, .int .i64 0, .int .i64 0, .int .i64 0], .int .i64 2]) (by simp [results, Tryz.results32, go_sem, r0, r1, r2, r3]) rfl ⟨rfl, hb9⟩
        by_cases hle : lo ≤ hi
        · have u3 : (hi < lo) = False := by simp; omega
          have u3' : decide (hi < lo) = false := decide_eq_false (by omega)
          have hE0 : E = 0 := by rw [HE.out]; simp [firstErr, unl, HA.out, HN.out.1, HN.out.2, hle]
          obtain ⟨hv, hlo, hhi, hM, hN⟩ := HVO.out hE0
          simp only [Prod.mk.injEq] at hv
          obtain ⟨⟨⟨rfl, rfl⟩, rfl, rfl⟩, rfl⟩ := hv
          have HL1 := Lib.hid (fun w' => b_lowest_any lo ma w' (by omega) (by omega) (by omega) (by omega))
          have HL2 := Lib.hid (fun w' => b_lowest_any hi mi w' (by omega) (by omega) (by omega) (by omega))
          have ok0 : OkB w.heap.size wr.heap.size (w.heap.size + 1) := ⟨by omega, by omega⟩
          clear hlo hhi hM hN hE0 HVO HVE HE HA HN hle
          go_wp2_with fail
          refine wp_region_laterC (B := wr.heap.size) (b0 :=  w.heap.size + 1) [(true, 0), (true, 1), (true, 2), (true, 4), (true, 5), (true, 6), (false, 3), (false, 7), (true, 8), (false, 9), (true, 10)] (by kernel_rfl) (by kernel_rfl) ?_; simp only [opsOf, List.filterMap_cons, List.filterMap_nil, List.getElem?_toArray, List.getElem?_cons_zero, List.getElem?_cons_succ, Option.map_some]
          repeat (refine mixc_head ?_; (show wpQuiet _ _ _ _ (_ :: _) _; go_big_quiet_step (fail)); refine wpQuiet_nil ?_)
          refine mixc_tail ?_; go_wp2_with fail
          refine (HL1.out _).mono ?_
          rintro e10 w10 ⟨rfl, hb10⟩
          have HX' := Lib.hid ((Below.refl wr.heap.size wr).drew.trans hb10)
          clear hb10
          go_wp2_with fail
          refine tailC_stay (SameX.of_below HX'.out) ?_
          repeat (refine mixc_head ?_; (show wpQuiet _ _ _ _ (_ :: _) _; go_big_quiet_step (fail)); refine wpQuiet_nil ?_)
          refine mixc_tail ?_; go_wp2_with fail
          refine (HL2.out _).mono ?_
          rintro e11 w11 ⟨rfl, hb11⟩
          have HX' := Lib.hid (HX'.out.trans (hb11.mono HX'.out.size))
          have hbx := HX'.out
          have hzx := hbx.size
          have x0 : w11.cell? ⟨w.heap.size, 0, none⟩ = some (.int .i64 lo) := by { rw [cellB hbx _ _ (by first | (simp; done) | (simp; omega) | omega)]; all_goals (first | assumption | go_simp) }; have x1 : w11.cell? ⟨w.heap.size, 1, none⟩ = some (.int .i64 hi) := by { rw [cellB hbx _ _ (by first | (simp; done) | (simp; omega) | omega)]; all_goals (first | assumption | go_simp) }; have z0 : w11.cell? ⟨w.heap.size + 1, 0, none⟩ = some (.int .i64 0) := by { rw [cellB hbx _ _ (by first | (simp; done) | (simp; omega) | omega)]; all_goals (first | assumption | go_simp) }; have z1 : w11.cell? ⟨w.heap.size + 1, 1, none⟩ = some (.int .i64 0) := by { rw [cellB hbx _ _ (by first | (simp; done) | (simp; omega) | omega)]; all_goals (first | assumption | go_simp) }; have z2 : w11.cell? ⟨w.heap.size + 1, 2, none⟩ = some (.int .i64 0) := by { rw [cellB hbx _ _ (by first | (simp; done) | (simp; omega) | omega)]; all_goals (first | assumption | go_simp) }; have z3 : w11.cell? ⟨w.heap.size + 1, 3, none⟩ = some (.int .i64 0) := by { rw [cellB hbx _ _ (by first | (simp; done) | (simp; omega) | omega)]; all_goals (first | assumption | go_simp) }; have f0 : w11.frozen? ⟨w.heap.size + 1, 0, none⟩ = false := by { rw [frozenB hbx _ _ (by first | (simp; done) | (simp; omega) | omega)]; all_goals (first | assumption | go_simp) }; have f1 : w11.frozen? ⟨w.heap.size + 1, 1, none⟩ = false := by { rw [frozenB hbx _ _ (by first | (simp; done) | (simp; omega) | omega)]; all_goals (first | assumption | go_simp) }; have f2 : w11.frozen? ⟨w.heap.size + 1, 2, none⟩ = false := by { rw [frozenB hbx _ _ (by first | (simp; done) | (simp; omega) | omega)]; all_goals (first | assumption | go_simp) }; have f3 : w11.frozen? ⟨w.heap.size + 1, 3, none⟩ = false := by { rw [frozenB hbx _ _ (by first | (simp; done) | (simp; omega) | omega)]; all_goals (first | assumption | go_simp) }; have l0 : w.heap.size < w11.heap.size := by { omega }; have l1 : w.heap.size + 1 < w11.heap.size := by { omega }
          have HB := Lib.hid (HB.out.trans (hbx.mono HB.out.size))
          clear hzx x0d x1d z0d z1d z2d z3d f0d f1d f2d f3d l0d l1d
          clear hb11 hbx
          go_wp2_with fail
          refine tailC_stay (SameX.of_below HX'.out) ?_
          repeat (refine mixc_head ?_; (show wpQuiet _ _ _ _ (_ :: _) _; go_big_quiet_step (fail)); refine wpQuiet_nil ?_)
          refine mixc_tail ?_; go_wp2_with fail
          refine tailC_stay (.set (.set (.set (.set (SameX.of_below HX'.out) _) _) _) _) ?_
          repeat (refine mixc_head ?_; (show wpQuiet _ _ _ _ (_ :: _) _; go_big_quiet_step (fail)); refine wpQuiet_nil ?_)
          refine mixc_nil ?_
          go_wp2_with fail
          generalize hW : World.setCell _ _ _ = w12
          have r0 : w12.cell? ⟨w.heap.size + 1, 0, none⟩ = some (.int .i64 (lo.tdiv (gc lo ma))) := by { rw [← hW]; clear hW; go_simp }
          have r1 : w12.cell? ⟨w.heap.size + 1, 1, none⟩ = some (.int .i64 (ma / gc lo ma)) := by { rw [← hW]; clear hW; go_simp }
          have r2 : w12.cell? ⟨w.heap.size + 1, 2, none⟩ = some (.int .i64 (hi.tdiv (gc hi mi))) := by { rw [← hW]; clear hW; go_simp }
          have r3 : w12.cell? ⟨w.heap.size + 1, 3, none⟩ = some (.int .i64 (mi / gc hi mi)) := by { rw [← hW]; clear hW; go_simp }
          have hb12 : Below w.heap.size w w12 := by { rw [← hW]; have := HB.out; (repeat' (first | (with_reducible exact Below.refl _ _) | (with_reducible assumption) | (with_reducible refine Below.drewN ?_ _) | (with_reducible refine Below.alloc ?_ ?_ _) | (with_reducible refine Below.drew ?_) | (with_reducible refine Below.setCell ?_ ?_ _) | (with_reducible refine Below.step (by assumption) ?_ ?_) | (with_reducible exact And.left (by assumption)) | go_size)) }
          clear hW
          exact bodyPost_ret (v := .tuple #[.agg #[.int .i64 (lo.tdiv (gc lo ma)), .int .i64 (ma / gc lo ma), .int .i64 (hi.tdiv (gc hi mi)), .int .i64 (mi / gc hi mi)], .int .i64 0]) (by simp [results, Tryz.results32, go_sem, r0, r1, r2, r3]) rfl ⟨rfl, hb12⟩
        · have u3 : (hi < lo) = True := by simp; omega
          have u3' : decide (hi < lo) = true := decide_eq_true (by omega)
          have HLE := Lib.hid hle
          clear hle
          obtain ⟨⟨⟨rfl, rfl⟩, rfl, rfl⟩, rfl⟩ : (((0 = V1 ∧ 0 = V2) ∧ 0 = V3 ∧ 0 = V4) ∧ 9 = V5) := by have := HVE.out 9 (by rw [HE.out]; simp [firstErr, unl, HA.out, HN.out.1, HN.out.2, HLE.out]) (by decide); simp only [Prod.mk.injEq] at this; obtain ⟨⟨⟨h1, h2⟩, h3, h4⟩, h5⟩ := this; exact ⟨⟨⟨h1.symm, h2.symm⟩, h3.symm, h4.symm⟩, h5.symm⟩
          go_wp2_with fail
          generalize hW : World.setCell _ _ _ = w9
          have r0 : w9.cell? ⟨w.heap.size + 1, 0, none⟩ = some (.int .i64 0) := by { rw [← hW]; clear hW; go_simp }
          have r1 : w9.cell? ⟨w.heap.size + 1, 1, none⟩ = some (.int .i64 0) := by { rw [← hW]; clear hW; go_simp }
          have r2 : w9.cell? ⟨w.heap.size + 1, 2, none⟩ = some (.int .i64 0) := by { rw [← hW]; clear hW; go_simp }
          have r3 : w9.cell? ⟨w.heap.size + 1, 3, none⟩ = some (.int .i64 0) := by { rw [← hW]; clear hW; go_simp }
          have hb9 : Below w.heap.size w w9 := by { rw [← hW]; have := HB.out; (repeat' (first | (with_reducible exact Below.refl _ _) | (with_reducible assumption) | (with_reducible refine Below.drewN ?_ _) | (with_reducible refine Below.alloc ?_ ?_ _) | (with_reducible refine Below.drew ?_) | (with_reducible refine Below.setCell ?_ ?_ _) | (with_reducible refine Below.step (by assumption) ?_ ?_) | (with_reducible exact And.left (by assumption)) | go_size)) }
          clear hW
          exact bodyPost_ret (v := .tuple #[.agg #[.int .i64 0, .int .i64 0, .int .i64 0, .int .i64 0], .int .i64 9]) (by simp [results, Tryz.results32, go_sem, r0, r1, r2, r3]) rfl ⟨rfl, hb9⟩
  · have u2 : (60 < (n : Int)) = True := by simp; omega
    have u2' : decide (60 < (n : Int)) = true := decide_eq_true (by omega)
    have HN0 := Lib.hid (And.intro hn0 (show ¬ (n : Int) ≤ 60 by omega))
    clear hn0 hn6
    obtain ⟨⟨⟨rfl, rfl⟩, rfl, rfl⟩, rfl⟩ : (((0 = V1 ∧ 0 = V2) ∧ 0 = V3 ∧ 0 = V4) ∧ 8 = V5) := by have := HVE.out 8 (by rw [HE.out]; simp [firstErr, unl, decide_eq_false HN0.out.2, Nat.pos_of_ne_zero HN0.out.1]) (by decide); simp only [Prod.mk.injEq] at this; obtain ⟨⟨⟨h1, h2⟩, h3, h4⟩, h5⟩ := this; exact ⟨⟨⟨h1.symm, h2.symm⟩, h3.symm, h4.symm⟩, h5.symm⟩
    go_enter Tryz.func32, Tryz.ntmps32
    go_wp2_with fail
    exact bodyPost_ret (v := .tuple #[.agg #[.int .i64 0, .int .i64 0, .int .i64 0, .int .i64 0], .int .i64 8]) (by simp [results, Tryz.results32, go_sem]) rfl ⟨rfl, by (repeat' (first | (with_reducible exact Below.refl _ _) | (with_reducible assumption) | (with_reducible refine Below.drewN ?_ _) | (with_reducible refine Below.alloc ?_ ?_ _) | (with_reducible refine Below.drew ?_) | (with_reducible refine Below.setCell ?_ ?_ _) | (with_reducible refine Below.step (by assumption) ?_ ?_) | (with_reducible exact And.left (by assumption)) | go_size))⟩
end Go.Proofs.YthkekjgdknnaiaaGreat
