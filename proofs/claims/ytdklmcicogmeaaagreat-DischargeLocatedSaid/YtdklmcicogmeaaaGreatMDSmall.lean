import Derived.Test.YtdklmcicogmeaaaGreatProg
import Derived.Test.YtdklmcicogmeaaaGreatMDSubs
import Derived.Test.YtdklmcicogmeaaaGreatMLib
/- The small functions of the package discharge: within, unless, first, divisor .. -/
namespace Go.Proofs.YtdklmcicogmeaaaGreat
open Go.RowKit
set_option linter.unusedVariables false

theorem d_unless_any (b : Bool) (e : Int) (w : World) : Calls Tryz.prog 67 #[.bool b, .int .i64 e] w fun e' w' => e' = .returned (.int .i64 (unl b e)) ∧ w = w' := by
  cases b
  all_goals
    go_enter Tryz.func67, Tryz.ntmps67
    go_wp2
    go_ret
    exact ⟨rfl, rfl⟩
theorem d_within_any (n lo hi : Int) (w : World) : Calls Tryz.prog 69 #[.int .i64 n, .int .i64 lo, .int .i64 hi] w fun e' w' => e' = .returned (.bool (wi n lo hi)) ∧ w = w' := by
  by_cases h : lo ≤ n
  · go_enter Tryz.func69, Tryz.ntmps69
    go_wp2
    go_ret
    exact ⟨by simp [wi, h], rfl⟩
  · have h' : n < lo := by omega
    go_enter Tryz.func69, Tryz.ntmps69
    go_wp2
    go_ret
    exact ⟨ret_bool (by simp [wi]; omega), rfl⟩
theorem d_isSized_any (n m : Int) (w : World) (h0 : 0 ≤ m) (h1 : m ≤ 1000000000000) : Calls Tryz.prog 71 #[.int .i64 n, .int .i64 m] w fun e' w' => e' = .returned (.bool (wi n (-m) m)) ∧ w = w' := by
  go_enter Tryz.func71, Tryz.ntmps71
  go_wp2_with (go_at_call 69; refine (d_within_any _ _ _ _).mono ?_; rintro e w' ⟨rfl, rfl⟩)
  go_ret
  exact ⟨rfl, rfl⟩
theorem d_size_any (n : Int) (w : World) (h0 : -9223372036854775807 ≤ n) (h1 : n ≤ 9223372036854775807) : Calls Tryz.prog 74 #[.int .i64 n] w fun e' w' => e' = .returned (.int .i64 (sz n)) ∧ w = w' := by
  go_enter Tryz.func74, Tryz.ntmps74
  go_wp2
  all_goals
    go_ret
    exact ⟨ret_int (by unfold sz; omega), rfl⟩
theorem d_divisor_any (a b : Int) (w : World) (ha0 : -9223372036854775807 ≤ a) (ha1 : a ≤ 9223372036854775807) (hb0 : -9223372036854775807 ≤ b) (hb1 : b ≤ 9223372036854775807) :
    Calls Tryz.prog 122 #[.int .i64 a, .int .i64 b] w fun e' w' => e' = .returned (.int .i64 (gc a b)) ∧ ∃ n, w' = w.drewN n := by
  go_enter Tryz.func122, Tryz.ntmps122
  go_wp2
  go_loopw [0, 1] (fun x y wr => ∃ c d : Int, x = .int .i64 c ∧ y = .int .i64 d ∧ gc c d = gc a b ∧ -9223372036854775807 ≤ c ∧ c ≤ 9223372036854775807 ∧ -9223372036854775807 ≤ d ∧ d ≤ 9223372036854775807 ∧ ∃ n, wr = w.drewN n) (fun _ y _ => (intOf y).natAbs)
  case atStart => exact ⟨a, b, rfl, rfl, rfl, ha0, ha1, hb0, hb1, 0, rfl⟩
  case round =>
    obtain ⟨c, d, rfl, rfl, hg, hc0, hc1, hd0, hd1, n, rfl⟩ := hrel
    have HG := Lib.hid hg; clear hg
    by_cases hd : d = 0
    · subst hd
      go_wp2_with (go_at_call 74; refine (d_size_any _ _ (by omega) (by omega)).mono ?_; rintro e w' ⟨rfl, rfl⟩)
      go_ret
      exact ⟨ret_int (by rw [← HG.out, gc_zero]), n, rfl⟩
    · have hd' : (d == 0) = false := by simpa using hd
      have hd'' : (d != 0) = true := by simpa using hd
      go_wp2
      go_region
      go_wp2
      have hlt := tmod_lt c d hd
      have hg := gcd_tmod c d
      have hbd := hlt
      go_roundw
      case rel => exact ⟨d, c.tmod d, rfl, rfl, by rw [← HG.out]; unfold gc; rw [hg], by omega, by omega, by omega, by omega, n + 1, rfl⟩
      case measure => simpa [intOf] using hlt
theorem d_lowest_any (a b : Int) (w : World) (ha0 : -9000000000000000000 ≤ a) (ha1 : a ≤ 9000000000000000000) (hb0 : 0 < b) (hb1 : b ≤ 9000000000000000000) :
    Calls Tryz.prog 91 #[.int .i64 a, .int .i64 b] w fun e' w' => e' = .returned (.agg #[.int .i64 (a.tdiv (gc a b)), .int .i64 (b / gc a b)]) ∧ Below w.heap.size w w' := by
  have hg0 := gc_pos (a := a) hb0
  have hg1 := gc_le (a := a) hb0
  have hq := tdiv_bd a (gc a b) 9000000000000000000 (by omega) (by omega)
  have hgn : (gc a b == 0) = false := by simp; omega
  go_enter Tryz.func91, Tryz.ntmps91
  go_wp2_with fail
  refine (d_divisor_any _ _ _ (by omega) (by omega) (by omega) (by omega)).mono ?_
  rintro e w' ⟨rfl, n, rfl⟩
  go_wp2_with fail
  go_region
  go_wp2
  refine bodyPost_ret (v := .agg #[.int .i64 (a.tdiv (gc a b)), .int .i64 (b / gc a b)]) (by simp [results, Tryz.results91, go_sem]) rfl ⟨rfl, ?_⟩
  (repeat' (first | (with_reducible exact Below.refl _ _) | (with_reducible assumption) | (with_reducible refine Below.drewN ?_ _) | (with_reducible refine Below.alloc ?_ ?_ _) | (with_reducible refine Below.drew ?_) | (with_reducible refine Below.setCell ?_ ?_ _) | (with_reducible refine Below.step (by assumption) ?_ ?_) | (with_reducible exact And.left (by assumption)) | go_size))
theorem d_first_any (l : List Int) (n c b o : Nat) (w : World) (hn : n ≤ 1000) (hl : l.length = n) (hc : ∀ i, i < n → w.cell? ⟨b, o + i, none⟩ = some (.int .i64 (l.getD i 0))) :
    Calls Tryz.prog 66 #[.slice (some ⟨b, o, none⟩) n c] w fun e' w' => e' = .returned (.int .i64 (firstErr l)) ∧ w = w' := by
  have HL := Lib.hid hl; clear hl
  have HC := Lib.hid hc; clear hc
  go_enter Tryz.func66, Tryz.ntmps66
  go_wp2
  go_loop [7] (fun i => ∃ k : Nat, i = .int .i64 k ∧ k ≤ n ∧ Hid (firstErr (l.drop k) = firstErr l)) (fun i => n - (intOf i).toNat)
  case atStart => exact ⟨0, rfl, Nat.zero_le _, rfl⟩
  case round =>
    obtain ⟨k, rfl, hk, hF⟩ := hrel
    by_cases hlt : k < n
    · have hck := HC.out k hlt
      have hF' := hF.out
      rw [drop_at l k 0 (by rw [HL.out]; exact hlt), firstErr] at hF'
      have HF := Lib.hid hF'; clear hF' hF
      obtain ⟨x, hx⟩ : ∃ x, x = l.getD k 0 := ⟨_, rfl⟩
      rw [← hx] at hck HF
      clear hx
      by_cases h0 : x = 0
      · subst h0
        go_wp2
        go_round
        case rel => exact ⟨k + 1, by go_num, by omega, Lib.hid (by simpa using HF.out)⟩
        case measure => simp [intOf]; omega
      · have h0' : (x != 0) = true := by simpa using h0
        go_wp2
        go_ret
        exact ⟨ret_int (by rw [← HF.out, if_neg h0]), rfl⟩
    · go_wp2
      go_ret
      exact ⟨ret_int (by rw [← hF.out, drop_end l k (by rw [HL.out]; omega)]; rfl), rfl⟩
theorem d_first2 (e1 e2 : Int) (w0 w : World) (t B : Nat) (hw : w.heap = (w0.alloc (.cells #[.int .i64 e1, .int .i64 e2] t)).heap) (hB : B = w0.heap.size) :
    Calls Tryz.prog 66 #[.slice (some ⟨B, 0, none⟩) 2 2] w fun e' w' => e' = .returned (.int .i64 (firstErr [e1, e2])) ∧ w = w' := by
  refine d_first_any [e1, e2] 2 2 B 0 _ (by omega) rfl (fun i hi => ?_)
  match i, hi with
  | 0, _ => exact cell_lit w0 w [.int .i64 e1, .int .i64 e2] t B 0 _ hw hB rfl
  | 1, _ => exact cell_lit w0 w [.int .i64 e1, .int .i64 e2] t B 1 _ hw hB rfl
theorem d_first3 (e1 e2 e3 : Int) (w0 w : World) (t B : Nat) (hw : w.heap = (w0.alloc (.cells #[.int .i64 e1, .int .i64 e2, .int .i64 e3] t)).heap) (hB : B = w0.heap.size) :
    Calls Tryz.prog 66 #[.slice (some ⟨B, 0, none⟩) 3 3] w fun e' w' => e' = .returned (.int .i64 (firstErr [e1, e2, e3])) ∧ w = w' := by
  refine d_first_any [e1, e2, e3] 3 3 B 0 _ (by omega) rfl (fun i hi => ?_)
  match i, hi with
  | 0, _ => exact cell_lit w0 w [.int .i64 e1, .int .i64 e2, .int .i64 e3] t B 0 _ hw hB rfl
  | 1, _ => exact cell_lit w0 w [.int .i64 e1, .int .i64 e2, .int .i64 e3] t B 1 _ hw hB rfl
  | 2, _ => exact cell_lit w0 w [.int .i64 e1, .int .i64 e2, .int .i64 e3] t B 2 _ hw hB rfl
theorem d_first4 (e1 e2 e3 e4 : Int) (w0 w : World) (t B : Nat) (hw : w.heap = (w0.alloc (.cells #[.int .i64 e1, .int .i64 e2, .int .i64 e3, .int .i64 e4] t)).heap) (hB : B = w0.heap.size) :
    Calls Tryz.prog 66 #[.slice (some ⟨B, 0, none⟩) 4 4] w fun e' w' => e' = .returned (.int .i64 (firstErr [e1, e2, e3, e4])) ∧ w = w' := by
  refine d_first_any [e1, e2, e3, e4] 4 4 B 0 _ (by omega) rfl (fun i hi => ?_)
  match i, hi with
  | 0, _ => exact cell_lit w0 w [.int .i64 e1, .int .i64 e2, .int .i64 e3, .int .i64 e4] t B 0 _ hw hB rfl
  | 1, _ => exact cell_lit w0 w [.int .i64 e1, .int .i64 e2, .int .i64 e3, .int .i64 e4] t B 1 _ hw hB rfl
  | 2, _ => exact cell_lit w0 w [.int .i64 e1, .int .i64 e2, .int .i64 e3, .int .i64 e4] t B 2 _ hw hB rfl
  | 3, _ => exact cell_lit w0 w [.int .i64 e1, .int .i64 e2, .int .i64 e3, .int .i64 e4] t B 3 _ hw hB rfl
theorem d_first5 (e1 e2 e3 e4 e5 : Int) (w0 w : World) (t B : Nat) (hw : w.heap = (w0.alloc (.cells #[.int .i64 e1, .int .i64 e2, .int .i64 e3, .int .i64 e4, .int .i64 e5] t)).heap) (hB : B = w0.heap.size) :
    Calls Tryz.prog 66 #[.slice (some ⟨B, 0, none⟩) 5 5] w fun e' w' => e' = .returned (.int .i64 (firstErr [e1, e2, e3, e4, e5])) ∧ w = w' := by
  refine d_first_any [e1, e2, e3, e4, e5] 5 5 B 0 _ (by omega) rfl (fun i hi => ?_)
  match i, hi with
  | 0, _ => exact cell_lit w0 w [.int .i64 e1, .int .i64 e2, .int .i64 e3, .int .i64 e4, .int .i64 e5] t B 0 _ hw hB rfl
  | 1, _ => exact cell_lit w0 w [.int .i64 e1, .int .i64 e2, .int .i64 e3, .int .i64 e4, .int .i64 e5] t B 1 _ hw hB rfl
  | 2, _ => exact cell_lit w0 w [.int .i64 e1, .int .i64 e2, .int .i64 e3, .int .i64 e4, .int .i64 e5] t B 2 _ hw hB rfl
  | 3, _ => exact cell_lit w0 w [.int .i64 e1, .int .i64 e2, .int .i64 e3, .int .i64 e4, .int .i64 e5] t B 3 _ hw hB rfl
  | 4, _ => exact cell_lit w0 w [.int .i64 e1, .int .i64 e2, .int .i64 e3, .int .i64 e4, .int .i64 e5] t B 4 _ hw hB rfl
end Go.Proofs.YtdklmcicogmeaaaGreat

/- Arrays of three integers (or addresses), read by an index. -/
namespace Go.Proofs.YtdklmcicogmeaaaGreat
open Go.RowKit
set_option linter.unusedVariables false

theorem run_arr3 (w : World) (a b c v : Value) (i : Int) (h0 : 0 ≤ i) (h1 : i < 3) (hv : (#[a, b, c] : Array Value)[i.toNat]? = some v) : (Instr.index 22 (.agg #[a, b, c]) (.int .i64 i)).run Tryz.prog w = .ok v w := by
  have hs : Tryz.prog.cellsOf 3 = 1 := by kernel_rfl
  obtain ⟨h, e⟩ := Array.getElem?_eq_some_iff.1 hv
  simp [Instr.index, run_underlying Tryz.underlying22, asIntOf, h0, h1, go_sem]
  simpa using e
@[go_sem] theorem run_arr3_0 (w : World) (a b c : Value) : (Instr.index 22 (.agg #[a, b, c]) (.int .i64 0)).run Tryz.prog w = .ok a w := run_arr3 w a b c a 0 (by omega) (by omega) rfl
@[go_sem] theorem run_arr3_1 (w : World) (a b c : Value) : (Instr.index 22 (.agg #[a, b, c]) (.int .i64 1)).run Tryz.prog w = .ok b w := run_arr3 w a b c b 1 (by omega) (by omega) rfl
@[go_sem] theorem run_arr3_2 (w : World) (a b c : Value) : (Instr.index 22 (.agg #[a, b, c]) (.int .i64 2)).run Tryz.prog w = .ok c w := run_arr3 w a b c c 2 (by omega) (by omega) rfl
theorem run_arp3 (w : World) (a b c v : Value) (i : Int) (h0 : 0 ≤ i) (h1 : i < 3) (hv : (#[a, b, c] : Array Value)[i.toNat]? = some v) : (Instr.index 198 (.agg #[a, b, c]) (.int .i64 i)).run Tryz.prog w = .ok v w := by
  have hs : Tryz.prog.cellsOf 197 = 1 := by kernel_rfl
  obtain ⟨h, e⟩ := Array.getElem?_eq_some_iff.1 hv
  simp [Instr.index, run_underlying Tryz.underlying198, asIntOf, h0, h1, go_sem]
  simpa using e
@[go_sem] theorem run_arp3_0 (w : World) (a b c : Value) : (Instr.index 198 (.agg #[a, b, c]) (.int .i64 0)).run Tryz.prog w = .ok a w := run_arp3 w a b c a 0 (by omega) (by omega) rfl
@[go_sem] theorem run_arp3_1 (w : World) (a b c : Value) : (Instr.index 198 (.agg #[a, b, c]) (.int .i64 1)).run Tryz.prog w = .ok b w := run_arp3 w a b c b 1 (by omega) (by omega) rfl
@[go_sem] theorem run_arp3_2 (w : World) (a b c : Value) : (Instr.index 198 (.agg #[a, b, c]) (.int .i64 2)).run Tryz.prog w = .ok c w := run_arp3 w a b c c 2 (by omega) (by omega) rfl
theorem run_ar2 (w : World) (a b v : Value) (i : Int) (h0 : 0 ≤ i) (h1 : i < 2) (hv : (#[a, b] : Array Value)[i.toNat]? = some v) : (Instr.index 181 (.agg #[a, b]) (.int .i64 i)).run Tryz.prog w = .ok v w := by
  have hs : Tryz.prog.cellsOf 3 = 1 := by kernel_rfl
  obtain ⟨h, e⟩ := Array.getElem?_eq_some_iff.1 hv
  simp [Instr.index, run_underlying Tryz.underlying181, asIntOf, h0, h1, go_sem]
  simpa using e
@[go_sem] theorem run_ar2_0 (w : World) (a b : Value) : (Instr.index 181 (.agg #[a, b]) (.int .i64 0)).run Tryz.prog w = .ok a w := run_ar2 w a b a 0 (by omega) (by omega) rfl
@[go_sem] theorem run_ar2_1 (w : World) (a b : Value) : (Instr.index 181 (.agg #[a, b]) (.int .i64 1)).run Tryz.prog w = .ok b w := run_ar2 w a b b 1 (by omega) (by omega) rfl
end Go.Proofs.YtdklmcicogmeaaaGreat
