import Derived.Test.YtkphbibonagkfaaGreatMDAnsP
import Derived.Test.YtkphbibonagkfaaGreatMDSmall
import Derived.Test.YtkphbibonagkfaaGreatMSmall
/- Places, grids, cells, roots, distances: the program's functions. -/
namespace Go.Proofs.YtkphbibonagkfaaGreat
open Go.RowKit
set_option linter.unusedVariables false

theorem isPlace1_any (x : Int) (w : World) : Calls Tryz.prog 144 #[.int .i64 x] w fun e w' => e = .returned (.bool (!wi x (-10000) 10000)) ∧ w = w' := by
  go_enter Tryz.func144, Tryz.ntmps144
  go_wp2_with (go_at_call 145; refine (d_isSized_any _ _ _ (by omega) (by omega)).mono ?_; rintro e w' ⟨rfl, rfl⟩)
  go_ret
  exact ⟨rfl, rfl⟩
theorem cf_isPlace1 (args : Array Value) (w : World) : (callFunc 144 args).run Tryz.prog w = .ok (.enter 144 args) w := by kernel_rfl
theorem checkGrid1_any (x : Int) (w : World) : Calls Tryz.prog 170 #[.int .i64 x] w fun e w' => e = .returned (.bool (!wi x 1 6)) ∧ w = w' := by
  go_enter Tryz.func170, Tryz.ntmps170
  go_wp2_with (go_at_call 88; refine (d_within_any _ _ _ _).mono ?_; rintro e w' ⟨rfl, rfl⟩)
  go_ret
  exact ⟨rfl, rfl⟩
theorem cf_checkGrid1 (args : Array Value) (w : World) : (callFunc 170 args).run Tryz.prog w = .ok (.enter 170 args) w := by kernel_rfl
/-- A part of a block that is laid, as integers. -/
theorem IntsR.part (w0 w : World) (cs : Array Value) (t B o n : Nat) (l : List Int) (hw : w.heap = (w0.alloc (.cells cs t)).heap) (hB : B = w0.heap.size) (hl : l.length = n) (hn : n ≤ 1000) (hc : ∀ i, i < n → cs[o + i]? = some (.int .i64 (l.getD i 0))) : IntsR w (some ⟨B, o, none⟩) n l := by
  refine ⟨by rw [icells_length, hl, Nat.mul_one], by unfold maxLen; omega, fun _ => ⟨B, o, rfl, ?_, fun i u hu => ?_⟩⟩
  · rw [hw, hB]; simp
  · subst hB
    have hi : i < (icells l).length := (List.getElem?_eq_some_iff.1 hu).1
    rw [icells_length] at hi
    rw [icells_get hi] at hu
    have h : w.heap[w0.heap.size]? = some (.cells cs t) := by rw [hw]; exact heap_alloc_new w0 _
    rw [cell_of_row _ _ _ _ _ _ h, hc i (by omega)]
    exact hu
theorem isPlace_any (p : T3) (w : World) : Calls Tryz.prog 91 #[.agg #[.int .i64 p.x, .int .i64 p.y, .int .i64 p.z]] w fun e' w' => e' = .returned (.bool (plc p)) ∧ Below w.heap.size w w' := by
  obtain ⟨x, y, z⟩ := p
  have HC := Lib.hid (fun (w' : World) (h : IntsR w' (some ⟨w.heap.size, 0, none⟩) 3 [x, y, z]) => containsInts_any _ _ cf_isPlace1 isPlace1_any [x, y, z] _ 3 3 w' h)
  go_enter Tryz.func91, Tryz.ntmps91
  go_wp2_with fail
  refine (HC.out _ (IntsR.part w _ _ _ _ 0 3 [x, y, z] rfl rfl rfl (by omega) (fun i hi => ?_))).mono ?_
  · match i, hi with
    | 0, _ => rfl
    | 1, _ => rfl
    | 2, _ => rfl
  rintro e w' ⟨rfl, rfl⟩
  generalize hg : [x, y, z].any (fun x => !wi x (-10000) 10000) = g
  have HG := Lib.hid hg
  clear hg HC
  go_wp2
  go_ret
  exact ⟨ret_bool (by rw [← HG.out]; rfl), by (repeat' (first | (with_reducible exact Below.refl _ _) | (with_reducible assumption) | (with_reducible refine Below.drewN ?_ _) | (with_reducible refine Below.alloc ?_ ?_ _) | (with_reducible refine Below.drew ?_) | (with_reducible refine Below.setCell ?_ ?_ _) | (with_reducible refine Below.step (by assumption) ?_ ?_) | (with_reducible exact And.left (by assumption)) | go_size))⟩
theorem checkGrid_any (g : Gri) (w : World) : Calls Tryz.prog 142 #[.agg #[.int .i64 g.f.x, .int .i64 g.f.y, .int .i64 g.f.z, .int .i64 g.st, .int .i64 g.c.x, .int .i64 g.c.y, .int .i64 g.c.z]] w fun e' w' => e' = .returned (.int .i64 (griE g)) ∧ Below w.heap.size w w' := by
  have HP := Lib.hid (fun w' => isPlace_any g.f w')
  have HS := Lib.hid (fun w' => d_within_any g.st 1 1000 w')
  obtain ⟨⟨x, y, z⟩, st, ⟨a, b, c⟩⟩ := g
  have HC := Lib.hid (fun (w' : World) (h : IntsR w' (some ⟨w.heap.size, 4, none⟩) 3 [a, b, c]) => containsInts_any _ _ cf_checkGrid1 checkGrid1_any [a, b, c] _ 3 3 w' h)
  have HU := Lib.hid (fun (v : Bool) w' => d_unless_any v 2 w')
  unfold griE
  simp only at HP HS ⊢
  have HK := Lib.hid (show [a, b, c].any (fun x => !wi x 1 6) = !cnt ⟨a, b, c⟩ by simp [cnt])
  rw [HK.out] at HC
  generalize cnt ⟨a, b, c⟩ = k at HC ⊢
  generalize plc ⟨x, y, z⟩ = p at HP ⊢
  generalize wi st 1 1000 = q at HS ⊢
  clear HK
  cases p <;> cases q
  all_goals
    go_enter Tryz.func142, Tryz.ntmps142
    go_wp2_with fail
    refine (HC.out _ (IntsR.part w _ _ _ _ 4 3 [a, b, c] rfl rfl rfl (by omega) (fun i hi => ?_))).mono ?_
    · match i, hi with
      | 0, _ => rfl
      | 1, _ => rfl
      | 2, _ => rfl
    rintro e w' ⟨rfl, rfl⟩
    go_wp2_with fail
    refine (HP.out _).mono ?_
    rintro e5 w5 ⟨rfl, hb5⟩
    have hz5 := hb5.size
    simp only [World.size_alloc] at hz5
    have q3 : w5.cell? ⟨w.heap.size, 3, none⟩ = some (.int .i64 st) := by { rw [cellB hb5 _ _ (by first | (simp; done) | (simp; omega) | omega)]; all_goals (first | assumption | go_simp) }; have l0 : w.heap.size < w5.heap.size := by { omega }
    have HB5 := Lib.hid (show Below w.heap.size w w5 by (repeat' (first | (with_reducible exact Below.refl _ _) | (with_reducible assumption) | (with_reducible refine Below.drewN ?_ _) | (with_reducible refine Below.alloc ?_ ?_ _) | (with_reducible refine Below.drew ?_) | (with_reducible refine Below.setCell ?_ ?_ _) | (with_reducible refine Below.step (by assumption) ?_ ?_) | (with_reducible exact And.left (by assumption)) | go_size)))
    clear hb5
    go_wp2_with (first | (go_at_call 88; refine (HS.out _).mono ?_; rintro e w' ⟨rfl, rfl⟩) | (go_at_call 89; refine (HU.out _ _).mono ?_; rintro e w' ⟨rfl, rfl⟩))
    go_ret
    exact ⟨ret_int (by simp), HB5.out⟩
theorem idx3 (x y z : Value) (k : Nat) (hk : k < 3) : (#[x, y, z] : Array Value)[k]? = some (if k = 0 then x else if k = 1 then y else z) := by
  match k, hk with
  | 0, _ => rfl
  | 1, _ => rfl
  | 2, _ => rfl
set_option maxRecDepth 100000 in
theorem cellErr_any (g : Gri) (c : T3) (w : World) (hg : cnt g.c = true) : Calls Tryz.prog 93 #[.agg #[.int .i64 g.f.x, .int .i64 g.f.y, .int .i64 g.f.z, .int .i64 g.st, .int .i64 g.c.x, .int .i64 g.c.y, .int .i64 g.c.z], .agg #[.int .i64 c.x, .int .i64 c.y, .int .i64 c.z]] w fun e' w' => e' = .returned (.int .i64 (unl (celB g c) 6)) ∧ Below w.heap.size w w' := by
  obtain ⟨⟨h1, h2⟩, ⟨h3, h4⟩, h5, h6⟩ := cnt_iff.1 hg
  obtain ⟨⟨x, y, z⟩, st, ⟨a, b, d⟩⟩ := g
  obtain ⟨p, q, r⟩ := c
  simp only at h1 h2 h3 h4 h5 h6
  unfold celB
  simp only
  have HP := Lib.hid (fun w' => d_within_any p 0 (a - 1) w')
  have HQ := Lib.hid (fun w' => d_within_any q 0 (b - 1) w')
  have HR := Lib.hid (fun w' => d_within_any r 0 (d - 1) w')
  generalize wi p 0 (a - 1) = x1 at *
  generalize wi q 0 (b - 1) = x2 at *
  generalize wi r 0 (d - 1) = x3 at *
  clear hg
  go_enter Tryz.func93, Tryz.ntmps93
  go_wp2
  go_loop [8] (fun i => i = .int .i64 0 ∨ (i = .int .i64 1 ∧ x1 = true) ∨ (i = .int .i64 2 ∧ x1 = true ∧ x2 = true) ∨ (i = .int .i64 3 ∧ x1 = true ∧ x2 = true ∧ x3 = true)) (fun i => 3 - (intOf i).toNat)
  case atStart => exact .inl rfl
  case round =>
    rcases hrel with rfl | ⟨rfl, rfl⟩ | ⟨rfl, rfl, rfl⟩ | ⟨rfl, rfl, rfl, rfl⟩
    · go_wp2_with fail
      refine (HP.out _).mono ?_
      rintro e w' ⟨rfl, rfl⟩
      cases x1
      · go_wp2
        go_ret
        exact ⟨ret_int (by simp [unl]), by (repeat' (first | (with_reducible exact Below.refl _ _) | (with_reducible assumption) | (with_reducible refine Below.drewN ?_ _) | (with_reducible refine Below.alloc ?_ ?_ _) | (with_reducible refine Below.drew ?_) | (with_reducible refine Below.setCell ?_ ?_ _) | (with_reducible refine Below.step (by assumption) ?_ ?_) | (with_reducible exact And.left (by assumption)) | go_size))⟩
      · go_wp2
        go_round
        case rel => simp
        case measure => simp [intOf]
    · go_wp2_with fail
      refine (HQ.out _).mono ?_
      rintro e w' ⟨rfl, rfl⟩
      cases x2
      · go_wp2
        go_ret
        exact ⟨ret_int (by simp [unl]), by (repeat' (first | (with_reducible exact Below.refl _ _) | (with_reducible assumption) | (with_reducible refine Below.drewN ?_ _) | (with_reducible refine Below.alloc ?_ ?_ _) | (with_reducible refine Below.drew ?_) | (with_reducible refine Below.setCell ?_ ?_ _) | (with_reducible refine Below.step (by assumption) ?_ ?_) | (with_reducible exact And.left (by assumption)) | go_size))⟩
      · go_wp2
        go_round
        case rel => simp
        case measure => simp [intOf]
    · go_wp2_with fail
      refine (HR.out _).mono ?_
      rintro e w' ⟨rfl, rfl⟩
      cases x3
      · go_wp2
        go_ret
        exact ⟨ret_int (by simp [unl]), by (repeat' (first | (with_reducible exact Below.refl _ _) | (with_reducible assumption) | (with_reducible refine Below.drewN ?_ _) | (with_reducible refine Below.alloc ?_ ?_ _) | (with_reducible refine Below.drew ?_) | (with_reducible refine Below.setCell ?_ ?_ _) | (with_reducible refine Below.step (by assumption) ?_ ?_) | (with_reducible exact And.left (by assumption)) | go_size))⟩
      · go_wp2
        go_round
        case rel => simp
        case measure => simp [intOf]
    · go_wp2
      go_ret
      exact ⟨ret_int (by simp [unl]), by (repeat' (first | (with_reducible exact Below.refl _ _) | (with_reducible assumption) | (with_reducible refine Below.drewN ?_ _) | (with_reducible refine Below.alloc ?_ ?_ _) | (with_reducible refine Below.drew ?_) | (with_reducible refine Below.setCell ?_ ?_ _) | (with_reducible refine Below.step (by assumption) ?_ ?_) | (with_reducible exact And.left (by assumption)) | go_size))⟩
/-- The root of a number from 0 to 2^42 - 1. -/
theorem bit_half (k : Nat) : ((2 : Int) ^ (k + 1)).tdiv 2 = 2 ^ k := by
  rw [Int.pow_succ]
  exact Int.mul_tdiv_cancel _ (by omega)
theorem bit_le {k m : Nat} (h : k ≤ m) : (2 : Int) ^ k ≤ 2 ^ m := by
  obtain ⟨j, rfl⟩ : ∃ j, m = k + j := ⟨m - k, by omega⟩
  rw [Int.pow_add]
  have h1 := pow_pos' k
  have h2 := pow_pos' j
  have h3 : (2 : Int) ^ k * 1 ≤ 2 ^ k * 2 ^ j := Int.mul_le_mul_of_nonneg_left (by omega) (by omega)
  omega
/-- The bit that is tried next: 2^(k - 1), or 0. -/
def btOf : Nat → Int
  | 0 => 0
  | k + 1 => 2 ^ k
theorem btOf_half (k : Nat) : (btOf (k + 1)).tdiv 2 = btOf k := by
  cases k with
  | zero => rfl
  | succ k => exact bit_half k
theorem root_any (n : Int) (w : World) (h0 : 0 ≤ n) (h1 : n < 4398046511104) : Calls Tryz.prog 171 #[.int .i64 n] w fun e' w' => e' = .returned (.int .i64 (isq n)) ∧ w = w' := by
  go_enter Tryz.func171, Tryz.ntmps171
  go_wp2
  go_loop [3, 4] (fun r b => ∃ (k : Nat) (R : Int), k ≤ 21 ∧ r = .int .i64 R ∧ b = .int .i64 (btOf k) ∧ 0 ≤ R ∧ R + 2 ^ k ≤ 2097152 ∧ Hid (rt n k R = isq n)) (fun _ b => (intOf b).toNat)
  case atStart => exact ⟨21, 0, by omega, rfl, rfl, by omega, by decide, Lib.hid rfl⟩
  case round =>
    obtain ⟨k, R, hk, rfl, rfl, hR, hR2, hF⟩ := hrel
    rcases k with _ | k
    · go_wp2
      go_ret
      exact ⟨ret_int hF.out, rfl⟩
    · have hh := btOf_half k
      have hp := pow_pos' k
      have he : (2 : Int) ^ (k + 1) = 2 ^ k + 2 ^ k := by rw [Int.pow_succ]; omega
      have hb : btOf (k + 1) = 2 ^ k := rfl
      rw [hb] at hh ⊢
      have hF' := hF.out
      unfold rt at hF'
      have hle : (2 : Int) ^ k ≤ 1048576 := by have := bit_le (show k ≤ 20 by omega); have e : (2 : Int) ^ 20 = 1048576 := by decide
                                               omega
      obtain ⟨B, hB⟩ : ∃ B, B = (2 : Int) ^ k := ⟨_, rfl⟩
      rw [he] at hR2
      have hbt : (btOf k).toNat < B.toNat := by
        cases k with
        | zero => simp [btOf, hB]
        | succ k => 
          have h1 := pow_pos' k
          have h2 : (2 : Int) ^ (k + 1) = 2 ^ k + 2 ^ k := by rw [Int.pow_succ]; omega
          simp only [btOf, hB]; omega
      have HBT := Lib.hid hbt
      rw [← hB] at hh hF' hp hR2 hle ⊢
      have HH := Lib.hid hh
      have HB := Lib.hid hB
      have HFF := Lib.hid hF'
      have hm := Int.mul_le_mul (show R + B ≤ 2097152 by omega) (show R + B ≤ 2097152 by omega) (show 0 ≤ R + B by omega) (by omega)
      have hm0 := Int.mul_nonneg (show 0 ≤ R + B by omega) (show 0 ≤ R + B by omega)
      clear hh hB hF' hF he hb hbt
      obtain ⟨C, hC⟩ : ∃ C, C = btOf k := ⟨_, rfl⟩
      rw [← hC] at HH HBT
      have HCC := Lib.hid hC
      clear hC
      by_cases hc : (R + B) * (R + B) ≤ n
      · have HF2 := Lib.hid (show rt n k (R + B) = isq n by rw [← HFF.out, if_pos hc])
        go_wp2
        go_round
        case rel => exact ⟨k, R + B, by omega, rfl, by first | rw [HH.out, HCC.out] | rw [← HCC.out, ← HH.out, Int.tdiv_eq_ediv_of_nonneg (by omega)], by omega, by rw [← HB.out]; omega, HF2⟩
        case measure => simp only [intOf]; have := HBT.out; have := HH.out; omega
      · have HF2 := Lib.hid (show rt n k R = isq n by rw [← HFF.out, if_neg hc])
        go_wp2
        go_round
        case rel => exact ⟨k, R, by omega, rfl, by first | rw [HH.out, HCC.out] | rw [← HCC.out, ← HH.out, Int.tdiv_eq_ediv_of_nonneg (by omega)], by omega, by rw [← HB.out]; omega, HF2⟩
        case measure => simp only [intOf]; have := HBT.out; have := HH.out; omega
end Go.Proofs.YtkphbibonagkfaaGreat
