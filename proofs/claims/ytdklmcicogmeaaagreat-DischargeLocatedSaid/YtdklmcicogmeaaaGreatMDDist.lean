import Derived.Test.YtdklmcicogmeaaaGreatMDAnsP
import Derived.Test.YtdklmcicogmeaaaGreatMQTail
/- The distance range of a cell: the program's function. -/
namespace Go.Proofs.YtdklmcicogmeaaaGreat
open Go.RowKit
set_option linter.unusedVariables false

theorem axN_bd {lo st : Int} (h1 : -20000 ≤ lo) (h2 : lo ≤ 25000) (h3 : 1 ≤ st) (h4 : st ≤ 1000) : 0 ≤ axN lo st ∧ axN lo st ≤ 25000 := by
  unfold axN; split
  · omega
  · split <;> omega
theorem axF_bd {lo st : Int} (h1 : -20000 ≤ lo) (h2 : lo ≤ 25000) (h3 : 1 ≤ st) (h4 : st ≤ 1000) : 0 ≤ axF lo st ∧ axF lo st ≤ 26000 := by
  unfold axF; split <;> omega
theorem sq_bd {a : Int} (h0 : 0 ≤ a) (h1 : a ≤ 26000) : 0 ≤ a * a ∧ a * a ≤ 676000000 := by
  have := Int.mul_le_mul h1 h1 h0 (by omega)
  exact ⟨Int.mul_nonneg h0 h0, by omega⟩
theorem coord_bd {f c st p : Int} (h1 : -10000 ≤ f) (h2 : f ≤ 10000) (h3 : 0 ≤ c) (h4 : c ≤ 5) (h5 : 1 ≤ st) (h6 : st ≤ 1000) (h7 : -10000 ≤ p) (h8 : p ≤ 10000) : (0 ≤ c * st ∧ c * st ≤ 5000) ∧ -20000 ≤ f + c * st - p ∧ f + c * st - p ≤ 25000 := by
  have h9 := Int.mul_le_mul h4 h6 (by omega) (by omega)
  have h10 := Int.mul_nonneg h3 (show 0 ≤ st by omega)
  omega
theorem w64 {x : Int} (h0 : -9223372036854775808 ≤ x) (h1 : x ≤ 9223372036854775807) : wrap64 x = x := by
  unfold wrap64; omega
theorem ax_near {f c q st : Int} (h : 0 ≤ st) : (if (if q < f + c * st then f + c * st - q else 0) < -(f + c * st - q + st) then -(f + c * st - q + st) else if q < f + c * st then f + c * st - q else 0) = axN (f + c * st - q) st := by
  unfold axN
  generalize f + c * st = x
  by_cases h1 : q < x
  · rw [if_pos h1, if_neg (by omega), if_pos (by omega)]
  · rw [if_neg h1, if_neg (show ¬ 0 < x - q by omega)]
    by_cases h2 : x - q + st < 0
    · rw [if_pos (by omega), if_pos h2]
    · rw [if_neg (by omega), if_neg h2]
theorem ax_far {f c q st : Int} : (if -(f + c * st - q) < f + c * st - q + st then f + c * st - q + st else -(f + c * st - q)) = axF (f + c * st - q) st := rfl
set_option maxHeartbeats 1000000 in
set_option maxRecDepth 100000 in
theorem distances_any (g : Gri) (c q : T3) (w : World) (hg : griE g = 0) (hc : celB g c = true) (hq : plc q = true) :
    Calls Tryz.prog 110 #[.agg #[.int .i64 g.f.x, .int .i64 g.f.y, .int .i64 g.f.z, .int .i64 g.st, .int .i64 g.c.x, .int .i64 g.c.y, .int .i64 g.c.z], .agg #[.int .i64 c.x, .int .i64 c.y, .int .i64 c.z], .agg #[.int .i64 q.x, .int .i64 q.y, .int .i64 q.z]] w
      fun e' w' => e' = .returned (.agg #[.int .i64 (dist g c q).1, .int .i64 (dist g c q).2]) ∧ Below w.heap.size w w' := by
  obtain ⟨hf, hst, hcn⟩ := griE_zero hg
  have hcc := celB_iff.1 hc
  have hff := plc_iff.1 hf
  have hqq := plc_iff.1 hq
  have hnn := cnt_iff.1 hcn
  unfold dist nea faa
  obtain ⟨⟨fx, fy, fz⟩, st, ⟨nx, ny, nz⟩⟩ := g
  obtain ⟨cx, cy, cz⟩ := c
  obtain ⟨qx, qy, qz⟩ := q
  simp only at hst hcc hff hqq hnn ⊢
  clear hg hc hq hf hcn
  obtain ⟨A1, hA1⟩ : ∃ A, A = axN (fx + cx * st - qx) st := ⟨_, rfl⟩
  obtain ⟨A2, hA2⟩ : ∃ A, A = axN (fy + cy * st - qy) st := ⟨_, rfl⟩
  obtain ⟨A3, hA3⟩ : ∃ A, A = axN (fz + cz * st - qz) st := ⟨_, rfl⟩
  obtain ⟨F1, hF1⟩ : ∃ A, A = axF (fx + cx * st - qx) st := ⟨_, rfl⟩
  obtain ⟨F2, hF2⟩ : ∃ A, A = axF (fy + cy * st - qy) st := ⟨_, rfl⟩
  obtain ⟨F3, hF3⟩ : ∃ A, A = axF (fz + cz * st - qz) st := ⟨_, rfl⟩
  have HA1 := Lib.hid hA1
  have HA2 := Lib.hid hA2
  have HA3 := Lib.hid hA3
  have HF1 := Lib.hid hF1
  have HF2 := Lib.hid hF2
  have HF3 := Lib.hid hF3
  rw [← hA1, ← hA2, ← hA3, ← hF1, ← hF2, ← hF3]
  have b1 := coord_bd (f := fx) (c := cx) (st := st) (p := qx) (by omega) (by omega) (by omega) (by omega) (by omega) (by omega) (by omega) (by omega)
  have b2 := coord_bd (f := fy) (c := cy) (st := st) (p := qy) (by omega) (by omega) (by omega) (by omega) (by omega) (by omega) (by omega) (by omega)
  have b3 := coord_bd (f := fz) (c := cz) (st := st) (p := qz) (by omega) (by omega) (by omega) (by omega) (by omega) (by omega) (by omega) (by omega)
  have a1 := axN_bd b1.2.1 b1.2.2 hst.1 hst.2
  have a2 := axN_bd b2.2.1 b2.2.2 hst.1 hst.2
  have a3 := axN_bd b3.2.1 b3.2.2 hst.1 hst.2
  have f1 := axF_bd b1.2.1 b1.2.2 hst.1 hst.2
  have f2 := axF_bd b2.2.1 b2.2.2 hst.1 hst.2
  have f3 := axF_bd b3.2.1 b3.2.2 hst.1 hst.2
  rw [← hA1] at a1
  rw [← hA2] at a2
  rw [← hA3] at a3
  rw [← hF1] at f1
  rw [← hF2] at f2
  rw [← hF3] at f3
  clear hA1 hA2 hA3 hF1 hF2 hF3
  have sa1 := sq_bd a1.1 (by omega)
  have sa2 := sq_bd a2.1 (by omega)
  have sa3 := sq_bd a3.1 (by omega)
  have sf1 := sq_bd f1.1 f1.2
  have sf2 := sq_bd f2.1 f2.2
  have sf3 := sq_bd f3.1 f3.2
  obtain ⟨S, hS⟩ : ∃ S, S = A1 * A1 + A2 * A2 + A3 * A3 := ⟨_, rfl⟩
  obtain ⟨T, hT⟩ : ∃ T, T = F1 * F1 + F2 * F2 + F3 * F3 := ⟨_, rfl⟩
  rw [← hS, ← hT]
  have hsn0 : 0 ≤ S := by omega
  have hsn1 : S ≤ 2028000000 := by omega
  have hsf0 : 0 ≤ T := by omega
  have hsf1 : T ≤ 2028000000 := by omega
  have HS := Lib.hid hS
  have HT := Lib.hid hT
  clear hS hT
  have hr := isq_spec hsf0 (by omega)
  have hr0 : isq T ≤ 2097151 := by have := rt_bd T 21 0; have e : (2 : Int) ^ 21 = 2097152 := by decide
                                   unfold isq; omega
  have HRF := Lib.hid (fun w' => root_any T w' hsf0 (by omega))
  have HRN := Lib.hid (fun w' => root_any S w' hsn0 (by omega))
  have hup : isqUp T = if isq T * isq T < T then isq T + 1 else isq T := rfl
  rw [hup]
  clear hup
  obtain ⟨R, hR⟩ : ∃ R, R = isq T := ⟨_, rfl⟩
  rw [← hR] at HRF hr hr0 ⊢
  clear hR
  obtain ⟨R2, hR2⟩ : ∃ R, R = isq S := ⟨_, rfl⟩
  rw [← hR2] at HRN ⊢
  clear hR2
  have hrr : R * R ≤ 9000000000 := by omega
  have hrr0 := mul_self_nonneg' R
  obtain ⟨U, hU⟩ : ∃ U, U = if R * R < T then R + 1 else R := ⟨_, rfl⟩
  rw [← hU]
  have HU := Lib.hid hU
  clear hU
  go_enter Tryz.func110, Tryz.ntmps110
  go_wp2
  generalize hW : World.alloc _ _ = w5
  have hb5 : Below w.heap.size w w5 := by rw [← hW]; (repeat' (first | (with_reducible exact Below.refl _ _) | (with_reducible assumption) | (with_reducible refine Below.drewN ?_ _) | (with_reducible refine Below.alloc ?_ ?_ _) | (with_reducible refine Below.drew ?_) | (with_reducible refine Below.setCell ?_ ?_ _) | (with_reducible refine Below.step (by assumption) ?_ ?_) | (with_reducible exact And.left (by assumption)) | go_size))
  have q0 : w5.cell? ⟨w.heap.size, 0, none⟩ = some (.int .i64 fx) := by { rw [← hW]; clear hW; go_simp }
  have q1 : w5.cell? ⟨w.heap.size, 1, none⟩ = some (.int .i64 fy) := by { rw [← hW]; clear hW; go_simp }
  have q2 : w5.cell? ⟨w.heap.size, 2, none⟩ = some (.int .i64 fz) := by { rw [← hW]; clear hW; go_simp }
  have q3 : w5.cell? ⟨w.heap.size, 3, none⟩ = some (.int .i64 st) := by { rw [← hW]; clear hW; go_simp }
  have p0 : w5.cell? ⟨w.heap.size + 1 + 1, 0, none⟩ = some (.int .i64 qx) := by { rw [← hW]; clear hW; go_simp }
  have p1 : w5.cell? ⟨w.heap.size + 1 + 1, 1, none⟩ = some (.int .i64 qy) := by { rw [← hW]; clear hW; go_simp }
  have p2 : w5.cell? ⟨w.heap.size + 1 + 1, 2, none⟩ = some (.int .i64 qz) := by { rw [← hW]; clear hW; go_simp }
  have r0 : w5.cell? ⟨w.heap.size + 1 + 1 + 1, 0, none⟩ = some (.int .i64 0) := by { rw [← hW]; clear hW; go_simp }
  have r1 : w5.cell? ⟨w.heap.size + 1 + 1 + 1, 1, none⟩ = some (.int .i64 0) := by { rw [← hW]; clear hW; go_simp }
  have g0 : w5.frozen? ⟨w.heap.size + 1 + 1 + 1, 0, none⟩ = false := by { rw [← hW]; clear hW; go_simp }
  have g1 : w5.frozen? ⟨w.heap.size + 1 + 1 + 1, 1, none⟩ = false := by { rw [← hW]; clear hW; go_simp }
  have HB5 := Lib.hid hb5
  clear hW hb5
  go_loopw [7, 8, 17] (fun a b i wr => ∃ m, wr = w5.drewN m ∧ ((i = .int .i64 0 ∧ a = .int .i64 0 ∧ b = .int .i64 0) ∨ (i = .int .i64 1 ∧ a = .int .i64 (A1 * A1) ∧ b = .int .i64 (F1 * F1)) ∨ (i = .int .i64 2 ∧ a = .int .i64 (A1 * A1 + A2 * A2) ∧ b = .int .i64 (F1 * F1 + F2 * F2)) ∨ (i = .int .i64 3 ∧ a = .int .i64 S ∧ b = .int .i64 T))) (fun _ _ i _ => 3 - (intOf i).toNat)
  case atStart => exact ⟨0, rfl, .inl ⟨rfl, rfl, rfl⟩⟩
  case round =>
    obtain ⟨m, rfl, hrel⟩ := hrel
    rcases hrel with ⟨rfl, rfl, rfl⟩ | ⟨rfl, rfl, rfl⟩ | ⟨rfl, rfl, rfl⟩ | ⟨rfl, rfl, rfl⟩
    · skip
      have hw1 : IntKind.i64.wrap (cx * st) = cx * st := by rw [IntKind.wrap_i64]; omega
      have hw2 : IntKind.i64.wrap (fx + cx * st) = fx + cx * st := by rw [IntKind.wrap_i64]; omega
      have hw3 : IntKind.i64.wrap (fx + cx * st - qx) = fx + cx * st - qx := by rw [IntKind.wrap_i64]; omega
      go_wp2_with fail
      go_quiet (fail)
      clear hw1 hw2 hw3
      go_wp2
      go_roundw
      case rel => exact ⟨_, rfl, .inr (.inl ⟨rfl, by rw [ax_near (by omega), ← HA1.out, w64 (x := A1 * A1) (by omega) (by omega), w64 (by omega) (by omega)], by rw [ax_far, ← HF1.out, w64 (x := F1 * F1) (by omega) (by omega), w64 (by omega) (by omega)]⟩)⟩
      case measure => simp [intOf]
    · skip
      have hw1 : IntKind.i64.wrap (cy * st) = cy * st := by rw [IntKind.wrap_i64]; omega
      have hw2 : IntKind.i64.wrap (fy + cy * st) = fy + cy * st := by rw [IntKind.wrap_i64]; omega
      have hw3 : IntKind.i64.wrap (fy + cy * st - qy) = fy + cy * st - qy := by rw [IntKind.wrap_i64]; omega
      go_wp2_with fail
      go_quiet (fail)
      clear hw1 hw2 hw3
      go_wp2
      go_roundw
      case rel => exact ⟨_, rfl, .inr (.inr (.inl ⟨rfl, by rw [ax_near (by omega), ← HA2.out, w64 (x := A2 * A2) (by omega) (by omega), w64 (by omega) (by omega)], by rw [ax_far, ← HF2.out, w64 (x := F2 * F2) (by omega) (by omega), w64 (by omega) (by omega)]⟩))⟩
      case measure => simp [intOf]
    · skip
      have hw1 : IntKind.i64.wrap (cz * st) = cz * st := by rw [IntKind.wrap_i64]; omega
      have hw2 : IntKind.i64.wrap (fz + cz * st) = fz + cz * st := by rw [IntKind.wrap_i64]; omega
      have hw3 : IntKind.i64.wrap (fz + cz * st - qz) = fz + cz * st - qz := by rw [IntKind.wrap_i64]; omega
      go_wp2_with fail
      go_quiet (fail)
      clear hw1 hw2 hw3
      go_wp2
      go_roundw
      case rel => exact ⟨_, rfl, .inr (.inr (.inr ⟨rfl, by rw [ax_near (by omega), ← HA3.out, w64 (x := A3 * A3) (by omega) (by omega), w64 (by omega) (by omega), HS.out], by rw [ax_far, ← HF3.out, w64 (x := F3 * F3) (by omega) (by omega), w64 (by omega) (by omega), HT.out]⟩))⟩
      case measure => simp [intOf]
    · clear sa1 sa2 sa3 sf1 sf2 sf3 a1 a2 a3 f1 f2 f3
      by_cases hlt : R * R < T
      all_goals
        go_wp2_with fail
        refine (HRF.out _).mono ?_
        rintro e w' ⟨rfl, rfl⟩
        go_wp2_with fail
        refine (HRN.out _).mono ?_
        rintro e w' ⟨rfl, rfl⟩
        go_wp2
        generalize hW : World.setCell _ _ _ = w9
        have c0 : w9.cell? ⟨w.heap.size + 1 + 1 + 1, 0, none⟩ = some (.int .i64 R2) := by { rw [← hW]; clear hW; go_simp }
        have hb9 : Below w.heap.size w w9 := by { rw [← hW]; have := HB5.out; (repeat' (first | (with_reducible exact Below.refl _ _) | (with_reducible assumption) | (with_reducible refine Below.drewN ?_ _) | (with_reducible refine Below.alloc ?_ ?_ _) | (with_reducible refine Below.drew ?_) | (with_reducible refine Below.setCell ?_ ?_ _) | (with_reducible refine Below.step (by assumption) ?_ ?_) | (with_reducible exact And.left (by assumption)) | go_size)) }
      · have c1 : w9.cell? ⟨w.heap.size + 1 + 1 + 1, 1, none⟩ = some (.int .i64 (R + 1)) := by { rw [← hW]; clear hW; go_simp }
        clear hW
        exact bodyPost_ret (v := .agg #[.int .i64 R2, .int .i64 (R + 1)]) (by simp [results, Tryz.results110, go_sem, c0, c1]) rfl ⟨by rw [HU.out, if_pos hlt], hb9⟩
      · have c1 : w9.cell? ⟨w.heap.size + 1 + 1 + 1, 1, none⟩ = some (.int .i64 R) := by { rw [← hW]; clear hW; go_simp }
        clear hW
        exact bodyPost_ret (v := .agg #[.int .i64 R2, .int .i64 R]) (by simp [results, Tryz.results110, go_sem, c0, c1]) rfl ⟨by rw [HU.out, if_neg (by omega)], hb9⟩
end Go.Proofs.YtdklmcicogmeaaaGreat

/- Ranges, arrivals: the program's functions. -/
namespace Go.Proofs.YtdklmcicogmeaaaGreat
open Go.RowKit
set_option linter.unusedVariables false

set_option maxHeartbeats 1000000 in
set_option maxRecDepth 100000 in
theorem rangeErr_any (f : FuncId) (p : Int → Bool) (hf : ∀ args w, (callFunc f args).run Tryz.prog w = .ok (.enter f args) w) (hp : ∀ (x : Int) (w : World), Calls Tryz.prog f #[.int .i64 x] w fun e w' => e = .returned (.bool (p x)) ∧ w = w')
    (lo hi : Int) (w : World) : Calls Tryz.prog 89 #[.agg #[.int .i64 lo, .int .i64 hi], .func (.func f) #[] #[]] w fun e' w' => e' = .returned (.int .i64 (rngEE p lo hi)) ∧ Below w.heap.size w w' := by
  have HL := Lib.hid (fun w' => hp lo w')
  have HH := Lib.hid (fun w' => hp hi w')
  have HU := Lib.hid (fun (b : Bool) (e : Int) w' => d_unless_any b e w')
  unfold rngEE
  generalize p lo = a at *
  generalize p hi = b at *
  clear hp
  cases a
  all_goals
    go_enter Tryz.func89, Tryz.ntmps89
    go_wp2
    refine later_of_eq 17 (by kernel_rfl) (by kernel_rfl) ?_; simp only [List.take_succ_cons, List.take_zero, List.drop_succ_cons, List.drop_zero]; repeat go_big_quiet_step (first | (with_reducible exact calls_later_same (HL.out _)) | (with_reducible exact calls_later_same (HH.out _)) | (with_reducible exact calls_later_same (HU.out _ _ _)))
    refine wpQuiet_nil ?_; intro w5 hb5
    have HB5 := Lib.hid (show Below w.heap.size w w5 by (repeat' (first | (with_reducible exact Below.refl _ _) | (with_reducible assumption) | (with_reducible refine Below.drewN ?_ _) | (with_reducible refine Below.alloc ?_ ?_ _) | (with_reducible refine Below.drew ?_) | (with_reducible refine Below.setCell ?_ ?_ _) | (with_reducible refine Below.step (by assumption) ?_ ?_) | (with_reducible exact And.left (by assumption)) | go_size)))
    clear hb5
    go_wp2_with fail
    refine (d_first2 _ _ _ _ _ _ (by rfl) (by simp)).mono ?_
    rintro e8 w8 ⟨rfl, hw8⟩
    have HB8 := Lib.hid (show Below w.heap.size w w8 from HB5.out.trans ((show Below w5.heap.size w5 w8 by rw [← hw8]; (repeat' (first | (with_reducible exact Below.refl _ _) | (with_reducible assumption) | (with_reducible refine Below.drewN ?_ _) | (with_reducible refine Below.alloc ?_ ?_ _) | (with_reducible refine Below.drew ?_) | (with_reducible refine Below.setCell ?_ ?_ _) | (with_reducible refine Below.step (by assumption) ?_ ?_) | (with_reducible exact And.left (by assumption)) | go_size))).mono HB5.out.size))
    clear hw8
    go_wp2
    go_ret
    exact ⟨ret_int rfl, HB8.out⟩
theorem ca1_any (x : Int) (w : World) : Calls Tryz.prog 135 #[.int .i64 x] w fun e w' => e = .returned (.bool (wi x 1 10000)) ∧ w = w' := by
  go_enter Tryz.func135, Tryz.ntmps135
  go_wp2_with (go_at_call 69; refine (d_within_any _ _ _ _).mono ?_; rintro e w' ⟨rfl, rfl⟩)
  go_ret
  exact ⟨rfl, rfl⟩
theorem cf_ca1 (args : Array Value) (w : World) : (callFunc 135 args).run Tryz.prog w = .ok (.enter 135 args) w := by kernel_rfl
theorem ca2_any (x : Int) (w : World) : Calls Tryz.prog 136 #[.int .i64 x] w fun e w' => e = .returned (.bool (wi x 0 1000000)) ∧ w = w' := by
  go_enter Tryz.func136, Tryz.ntmps136
  go_wp2_with (go_at_call 69; refine (d_within_any _ _ _ _).mono ?_; rintro e w' ⟨rfl, rfl⟩)
  go_ret
  exact ⟨rfl, rfl⟩
theorem cf_ca2 (args : Array Value) (w : World) : (callFunc 136 args).run Tryz.prog w = .ok (.enter 136 args) w := by kernel_rfl
theorem sAt_get {l : List Sen} {k : Nat} {s : Sen} (h : l[k]? = some s) : sAt l k = s := by
  unfold sAt; rw [List.getD_eq_getElem?_getD, h]; rfl
set_option maxHeartbeats 1000000 in
set_option maxRecDepth 100000 in
theorem checkArrivals_any (A : Arr) (a : Option Addr) (n c : Nat) (w : World) (hl : SenR w a n A.l) :
    Calls Tryz.prog 111 #[.agg #[.int .i64 A.lo, .int .i64 A.hi, .slice a n c]] w fun e' w' => e' = .returned (.tuple #[.int .i64 (arrE A).1, .int .i64 (arrE A).2]) ∧ Below w.heap.size w w' := by
  have hn := hl.small
  have HL := Lib.hid hl
  have HLN := Lib.hid hl.len
  have HR1 := Lib.hid (fun w' => rangeErr_any _ _ cf_ca1 ca1_any A.lo A.hi w')
  have HU := Lib.hid (fun (b : Bool) (e : Int) w' => d_unless_any b e w')
  have harr : arrE A = if arrH A ≠ 0 then (0, arrH A) else firstAt (senE A.l) n 0 := by unfold arrE; rw [hl.len]
  have hhd : arrH A = firstErr [rngEE (fun n => wi n 1 10000) A.lo A.hi, unl (decide (2 ≤ (n : Int))) 10, unl (decide ((n : Int) ≤ 5)) 8] := by unfold arrH; rw [hl.len]
  rw [harr, hhd]
  clear harr hhd hl
  obtain ⟨lo, hi, l⟩ := A
  simp only at HL HLN HR1 ⊢
  generalize rngEE (fun n => wi n 1 10000) lo hi = E1 at *
  obtain ⟨H, hH⟩ : ∃ H, H = firstErr [E1, unl (decide (2 ≤ (n : Int))) 10, unl (decide ((n : Int) ≤ 5)) 8] := ⟨_, rfl⟩
  rw [← hH]
  have HH := Lib.hid hH
  clear hH
  by_cases h0 : H ≠ 0
  · rw [if_pos h0]
    have h0' : (H != 0) = true := by simpa using h0
    clear h0
    go_enter Tryz.func111, Tryz.ntmps111
    go_wp2
    refine later_of_eq 13 (by kernel_rfl) (by kernel_rfl) ?_; simp only [List.take_succ_cons, List.take_zero, List.drop_succ_cons, List.drop_zero]; repeat go_big_quiet_step (first | (with_reducible exact calls_later (HR1.out _)) | (with_reducible exact calls_later_same (HU.out _ _ _)))
    refine wpQuiet_nil ?_; intro w5 hb5
    have HB5 := Lib.hid (show Below w.heap.size w w5 by (repeat' (first | (with_reducible exact Below.refl _ _) | (with_reducible assumption) | (with_reducible refine Below.drewN ?_ _) | (with_reducible refine Below.alloc ?_ ?_ _) | (with_reducible refine Below.drew ?_) | (with_reducible refine Below.setCell ?_ ?_ _) | (with_reducible refine Below.step (by assumption) ?_ ?_) | (with_reducible exact And.left (by assumption)) | go_size)))
    clear hb5
    go_wp2_with fail
    refine (d_first3 _ _ _ _ _ _ _ (by rfl) (by simp)).mono ?_
    rintro e8 w8 ⟨rfl, hw8⟩
    have HB8 := Lib.hid (show Below w.heap.size w w8 from HB5.out.trans ((show Below w5.heap.size w5 w8 by rw [← hw8]; (repeat' (first | (with_reducible exact Below.refl _ _) | (with_reducible assumption) | (with_reducible refine Below.drewN ?_ _) | (with_reducible refine Below.alloc ?_ ?_ _) | (with_reducible refine Below.drew ?_) | (with_reducible refine Below.setCell ?_ ?_ _) | (with_reducible refine Below.step (by assumption) ?_ ?_) | (with_reducible exact And.left (by assumption)) | go_size))).mono HB5.out.size))
    clear hw8
    rw [← HH.out]
    go_wp2
    go_ret2
    exact ⟨rfl, HB8.out⟩
  · have h1 : H = 0 := Decidable.not_not.1 h0
    rw [if_neg h0]
    subst h1
    clear h0
    go_enter Tryz.func111, Tryz.ntmps111
    go_wp2
    refine later_of_eq 13 (by kernel_rfl) (by kernel_rfl) ?_; simp only [List.take_succ_cons, List.take_zero, List.drop_succ_cons, List.drop_zero]; repeat go_big_quiet_step (first | (with_reducible exact calls_later (HR1.out _)) | (with_reducible exact calls_later_same (HU.out _ _ _)))
    refine wpQuiet_nil ?_; intro w5 hb5
    have hz5 := hb5.size
    simp only [World.size_alloc] at hz5
    have q2 : w5.cell? ⟨w.heap.size, 2, none⟩ = some (.slice a n c) := by { rw [cellB hb5 _ _ (by first | (simp; done) | (simp; omega) | omega)]; all_goals (first | assumption | go_simp) }; have l0 : w.heap.size < w5.heap.size := by { omega }
    have HB5 := Lib.hid (show Below w.heap.size w w5 by (repeat' (first | (with_reducible exact Below.refl _ _) | (with_reducible assumption) | (with_reducible refine Below.drewN ?_ _) | (with_reducible refine Below.alloc ?_ ?_ _) | (with_reducible refine Below.drew ?_) | (with_reducible refine Below.setCell ?_ ?_ _) | (with_reducible refine Below.step (by assumption) ?_ ?_) | (with_reducible exact And.left (by assumption)) | go_size)))
    clear hb5
    go_wp2_with fail
    refine (d_first3 _ _ _ _ _ _ _ (by rfl) (by simp)).mono ?_
    rintro e8 w8 ⟨rfl, hw8⟩
    have hb8 : Below w5.heap.size w5 w8 := by rw [← hw8]; (repeat' (first | (with_reducible exact Below.refl _ _) | (with_reducible assumption) | (with_reducible refine Below.drewN ?_ _) | (with_reducible refine Below.alloc ?_ ?_ _) | (with_reducible refine Below.drew ?_) | (with_reducible refine Below.setCell ?_ ?_ _) | (with_reducible refine Below.step (by assumption) ?_ ?_) | (with_reducible exact And.left (by assumption)) | go_size))
    have q2c : w8.cell? ⟨w.heap.size, 2, none⟩ = some (.slice a n c) := by { rw [cellB hb8 _ _ (by first | (simp; done) | (simp; omega) | omega)]; all_goals (first | assumption | go_simp) }
    have HB8 := Lib.hid (HB5.out.trans (hb8.mono HB5.out.size))
    rw [← HH.out]
    clear hw8 hb8 q2 l0 HR1 HH HB5
    go_wp2_with fail
    go_loopw [30] (fun i wr => ∃ k : Nat, i = .int .i64 k ∧ k ≤ n ∧ Hid (firstAt (senE l) (n - k) k = firstAt (senE l) n 0) ∧ Hid (Below w.heap.size w wr)) (fun i _ => n - (intOf i).toNat)
    case atStart => exact ⟨0, rfl, Nat.zero_le _, Lib.hid rfl, HB8⟩
    case round =>
      obtain ⟨k, rfl, hk, hF, hB⟩ := hrel
      have i0 : (0 : Int) ≤ (k : Int) := by omega
      by_cases hlt : k < n
      · obtain ⟨b, o, rfl, hb, hc⟩ := HL.out.addr (by omega)
        obtain ⟨⟨x, y, z, tl, th⟩, hx⟩ := ER.get HL.out hlt
        obtain ⟨q0, q1, q3, q4, q5⟩ := hc k _ hx
        rw [← cellB hB.out _ _ hb] at q0 q1 q3 q4 q5
        have hF' := hF.out
        have hS := sAt_get hx
        have hE : senE l k = firstErr [unl (plc ⟨x, y, z⟩) 2, rngEE (fun n => wi n 0 1000000) tl th] := by unfold senE; rw [hS]
        rw [firstAt_step hlt] at hF'
        obtain ⟨E, hEE⟩ : ∃ E, E = senE l k := ⟨_, rfl⟩
        rw [← hEE] at hE hF'
        have HF := Lib.hid hF'
        have HE := Lib.hid hE
        have HP := Lib.hid (fun w' => isPlace_any ⟨x, y, z⟩ w')
        have HR := Lib.hid (fun w' => rangeErr_any _ _ cf_ca2 ca2_any tl th w')
        simp only at HP
        generalize plc ⟨x, y, z⟩ = pv at *
        generalize rngEE (fun n => wi n 0 1000000) tl th = rv at *
        have hbw : b < wr.heap.size := by have := hB.out.size; omega
        have i1 : (k : Int) < (n : Int) := by omega
        clear hF' hF hE hS hc hx hEE
        go_wp2_with fail
        refine later_of_eq 8 (by kernel_rfl) (by kernel_rfl) ?_; simp only [List.take_succ_cons, List.take_zero, List.drop_succ_cons, List.drop_zero]; repeat go_big_quiet_step (first | (with_reducible exact calls_later (HP.out _)) | (with_reducible exact calls_later_same (HU.out _ _ _)) | (with_reducible exact calls_later (HR.out _)))
        refine wpQuiet_nil ?_; intro w9 hb9
        have HB9 := Lib.hid (show Below w.heap.size w w9 from hB.out.trans (Below.mono (show Below wr.heap.size wr w9 by (repeat' (first | (with_reducible exact Below.refl _ _) | (with_reducible assumption) | (with_reducible refine Below.drewN ?_ _) | (with_reducible refine Below.alloc ?_ ?_ _) | (with_reducible refine Below.drew ?_) | (with_reducible refine Below.setCell ?_ ?_ _) | (with_reducible refine Below.step (by assumption) ?_ ?_) | (with_reducible exact And.left (by assumption)) | go_size))) hB.out.size))
        clear hb9
        go_wp2_with fail
        refine (d_first2 _ _ _ _ _ _ (by rfl) (by simp)).mono ?_
        rintro e10 w10 ⟨rfl, hw10⟩
        have HB10 := Lib.hid (show Below w.heap.size w w10 from HB9.out.trans ((show Below w9.heap.size w9 w10 by rw [← hw10]; (repeat' (first | (with_reducible exact Below.refl _ _) | (with_reducible assumption) | (with_reducible refine Below.drewN ?_ _) | (with_reducible refine Below.alloc ?_ ?_ _) | (with_reducible refine Below.drew ?_) | (with_reducible refine Below.setCell ?_ ?_ _) | (with_reducible refine Below.step (by assumption) ?_ ?_) | (with_reducible exact And.left (by assumption)) | go_size))).mono HB9.out.size))
        clear hw10
        rw [← HE.out]
        by_cases hE0 : E ≠ 0
        · rw [if_pos hE0] at HF
          have hE1 : (E != 0) = true := by simpa using hE0
          clear hE0 HE
          go_wp2
          go_ret2
          exact ⟨by rw [← HF.out]; rfl, HB10.out⟩
        · rw [if_neg hE0] at HF
          have hE1 : (E != 0) = false := by simpa using hE0
          clear hE0 HE
          go_wp2
          go_roundw
          case rel => exact ⟨k + 1, by go_num, by omega, HF, HB10⟩
          case measure => simp [intOf]; omega
      · have HF := Lib.hid (hF.out.symm.trans (firstAt_end (by omega)))
        clear hF
        go_wp2
        go_ret2
        exact ⟨by rw [HF.out]; rfl, hB.out⟩
end Go.Proofs.YtdklmcicogmeaaaGreat
