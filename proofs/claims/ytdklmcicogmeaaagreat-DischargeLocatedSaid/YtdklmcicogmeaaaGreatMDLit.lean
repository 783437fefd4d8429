import Derived.Test.YtdklmcicogmeaaaGreatMDLst
import Derived.Test.YtdklmcicogmeaaaGreatMDRec
import Derived.Test.YtdklmcicogmeaaaGreatMDSmall
import Derived.Test.YtdklmcicogmeaaaGreatMDSubs
/- The examples of the chapter's statements. -/
namespace Go.Proofs.YtdklmcicogmeaaaGreat
open Go.RowKit
set_option linter.unusedVariables false

theorem sl_made {w0 w : World} {cs : List Value} {t B n sz : Nat} (hB : B = w0.heap.size) (hb : Below (B + 1) (w0.alloc (.cells cs.toArray t)) w) (hl : cs.length = n * sz) (hn : n ≤ 1000) : SlR w (some ⟨B, 0, none⟩) n sz cs :=
  (SlR.lit w0 (w0.alloc (.cells cs.toArray t)) cs t B n sz rfl hB hl hn).below (by rw [World.size_alloc, ← hB]; exact hb)
set_option maxRecDepth 100000 in
theorem series9_any (w : World) : Calls Tryz.prog 51 #[] w fun e' w' => ∃ g, e' = .returned (.agg #[.string ⟨#[104, 102, 99, 116]⟩, .int .i64 120, .int .i64 2, .int .i64 1, .int .i64 2, .int .i64 2, .int .i64 3, .slice (some ⟨g, 0, none⟩) 3 3]) ∧ Below w.heap.size w w' ∧ T3R w' (some ⟨g, 0, none⟩) 3 [⟨5, -20, 3⟩, ⟨65, 25, 12⟩, ⟨125, -30, 4⟩] := by
  go_enter Tryz.func51, Tryz.ntmps51
  go_wp2
  refine bodyPost_ret (v := .agg #[.string ⟨#[104, 102, 99, 116]⟩, .int .i64 120, .int .i64 2, .int .i64 1, .int .i64 2, .int .i64 2, .int .i64 3, .slice (some ⟨w.heap.size + 1, 0, none⟩) 3 3]) (by simp [results, Tryz.results51, go_sem]) rfl ⟨_, rfl, ?_, rfl, ?_⟩
  · (repeat' (first | (with_reducible exact Below.refl _ _) | (with_reducible assumption) | (with_reducible refine Below.drewN ?_ _) | (with_reducible refine Below.alloc ?_ ?_ _) | (with_reducible refine Below.drew ?_) | (with_reducible refine Below.setCell ?_ ?_ _) | (with_reducible refine Below.step (by assumption) ?_ ?_) | (with_reducible exact And.left (by assumption)) | go_size))
  · exact sl_made (w0 := w.alloc _) (t := 72) (cs := [.int .i64 5, .int .i64 (-20), .int .i64 3, .int .i64 65, .int .i64 25, .int .i64 12, .int .i64 125, .int .i64 (-30), .int .i64 4]) (by simp) (by (repeat' (first | (with_reducible exact Below.refl _ _) | (with_reducible assumption) | (with_reducible refine Below.drewN ?_ _) | (with_reducible refine Below.alloc ?_ ?_ _) | (with_reducible refine Below.drew ?_) | (with_reducible refine Below.setCell ?_ ?_ _) | (with_reducible refine Below.step (by assumption) ?_ ?_) | (with_reducible exact And.left (by assumption)) | go_size))) rfl (by omega)
set_option maxRecDepth 100000 in
theorem grid9_any (w : World) : Calls Tryz.prog 52 #[] w fun e' w' => e' = .returned (.agg #[.int .i64 0, .int .i64 0, .int .i64 0, .int .i64 10, .int .i64 3, .int .i64 1, .int .i64 1]) ∧ Below w.heap.size w w' := by
  go_enter Tryz.func52, Tryz.ntmps52
  go_wp2
  refine bodyPost_ret (v := .agg #[.int .i64 0, .int .i64 0, .int .i64 0, .int .i64 10, .int .i64 3, .int .i64 1, .int .i64 1]) (by simp [results, Tryz.results52, go_sem]) rfl ⟨rfl, ?_⟩
  (repeat' (first | (with_reducible exact Below.refl _ _) | (with_reducible assumption) | (with_reducible refine Below.drewN ?_ _) | (with_reducible refine Below.alloc ?_ ?_ _) | (with_reducible refine Below.drew ?_) | (with_reducible refine Below.setCell ?_ ?_ _) | (with_reducible refine Below.step (by assumption) ?_ ?_) | (with_reducible exact And.left (by assumption)) | go_size))
set_option maxRecDepth 100000 in
theorem arrivals9_any (w : World) : Calls Tryz.prog 53 #[] w fun e' w' => ∃ g, e' = .returned (.agg #[.int .i64 1, .int .i64 1, .slice (some ⟨g, 0, none⟩) 2 2]) ∧ Below w.heap.size w w' ∧ SenR w' (some ⟨g, 0, none⟩) 2 [⟨-100, 5, 5, 100, 100⟩, ⟨130, 5, 5, 130, 130⟩] := by
  go_enter Tryz.func53, Tryz.ntmps53
  go_wp2
  refine bodyPost_ret (v := .agg #[.int .i64 1, .int .i64 1, .slice (some ⟨w.heap.size + 1, 0, none⟩) 2 2]) (by simp [results, Tryz.results53, go_sem]) rfl ⟨_, rfl, ?_, rfl, ?_⟩
  · (repeat' (first | (with_reducible exact Below.refl _ _) | (with_reducible assumption) | (with_reducible refine Below.drewN ?_ _) | (with_reducible refine Below.alloc ?_ ?_ _) | (with_reducible refine Below.drew ?_) | (with_reducible refine Below.setCell ?_ ?_ _) | (with_reducible refine Below.step (by assumption) ?_ ?_) | (with_reducible exact And.left (by assumption)) | go_size))
  · exact sl_made (w0 := w.alloc _) (t := 40) (cs := [.int .i64 (-100), .int .i64 5, .int .i64 5, .int .i64 100, .int .i64 100, .int .i64 130, .int .i64 5, .int .i64 5, .int .i64 130, .int .i64 130]) (by simp) (by (repeat' (first | (with_reducible exact Below.refl _ _) | (with_reducible assumption) | (with_reducible refine Below.drewN ?_ _) | (with_reducible refine Below.alloc ?_ ?_ _) | (with_reducible refine Below.drew ?_) | (with_reducible refine Below.setCell ?_ ?_ _) | (with_reducible refine Below.step (by assumption) ?_ ?_) | (with_reducible exact And.left (by assumption)) | go_size))) rfl (by omega)
set_option maxRecDepth 100000 in
theorem network9_any (w : World) : Calls Tryz.prog 55 #[] w fun e' w' => ∃ g, e' = .returned (.agg #[.slice (some ⟨g, 0, none⟩) 1 1]) ∧ Below w.heap.size w w' ∧ T3R w' (some ⟨g, 0, none⟩) 1 [⟨1, 0, 1⟩] := by
  go_enter Tryz.func55, Tryz.ntmps55
  go_wp2
  refine bodyPost_ret (v := .agg #[.slice (some ⟨w.heap.size + 1, 0, none⟩) 1 1]) (by simp [results, Tryz.results55, go_sem]) rfl ⟨_, rfl, ?_, rfl, ?_⟩
  · (repeat' (first | (with_reducible exact Below.refl _ _) | (with_reducible assumption) | (with_reducible refine Below.drewN ?_ _) | (with_reducible refine Below.alloc ?_ ?_ _) | (with_reducible refine Below.drew ?_) | (with_reducible refine Below.setCell ?_ ?_ _) | (with_reducible refine Below.step (by assumption) ?_ ?_) | (with_reducible exact And.left (by assumption)) | go_size))
  · exact sl_made (w0 := w.alloc _) (t := 178) (cs := [.int .i64 1, .int .i64 0, .int .i64 1]) (by simp) (by (repeat' (first | (with_reducible exact Below.refl _ _) | (with_reducible assumption) | (with_reducible refine Below.drewN ?_ _) | (with_reducible refine Below.alloc ?_ ?_ _) | (with_reducible refine Below.drew ?_) | (with_reducible refine Below.setCell ?_ ?_ _) | (with_reducible refine Below.step (by assumption) ?_ ?_) | (with_reducible exact And.left (by assumption)) | go_size))) rfl (by omega)
set_option maxRecDepth 100000 in
theorem changes9_any (w : World) : Calls Tryz.prog 56 #[] w fun e' w' => ∃ g, e' = .returned (.slice (some ⟨g, 0, none⟩) 2 2) ∧ Below w.heap.size w w' ∧ T3R w' (some ⟨g, 0, none⟩) 2 [⟨0, 2, 1⟩, ⟨0, 0, 1⟩] := by
  go_enter Tryz.func56, Tryz.ntmps56
  go_wp2
  refine bodyPost_ret (v := .slice (some ⟨w.heap.size, 0, none⟩) 2 2) (by simp [results, Tryz.results56, go_sem]) rfl ⟨_, rfl, ?_, rfl, ?_⟩
  · (repeat' (first | (with_reducible exact Below.refl _ _) | (with_reducible assumption) | (with_reducible refine Below.drewN ?_ _) | (with_reducible refine Below.alloc ?_ ?_ _) | (with_reducible refine Below.drew ?_) | (with_reducible refine Below.setCell ?_ ?_ _) | (with_reducible refine Below.step (by assumption) ?_ ?_) | (with_reducible exact And.left (by assumption)) | go_size))
  · exact sl_made (w0 := w) (t := 104) (cs := [.int .i64 0, .int .i64 2, .int .i64 1, .int .i64 0, .int .i64 0, .int .i64 1]) (by simp) (by (repeat' (first | (with_reducible exact Below.refl _ _) | (with_reducible assumption) | (with_reducible refine Below.drewN ?_ _) | (with_reducible refine Below.alloc ?_ ?_ _) | (with_reducible refine Below.drew ?_) | (with_reducible refine Below.setCell ?_ ?_ _) | (with_reducible refine Below.step (by assumption) ?_ ?_) | (with_reducible exact And.left (by assumption)) | go_size))) rfl (by omega)
end Go.Proofs.YtdklmcicogmeaaaGreat

/- Which strings are names, in the package discharge. -/
namespace Go.Proofs.YtdklmcicogmeaaaGreat
open Go.RowKit
set_option linter.unusedVariables false

set_option maxHeartbeats 1000000 in
set_option maxRecDepth 100000 in
theorem d_isName_any (s : ByteArray) (w : World) (hs : s.size ≤ maxLen) :
    Calls Tryz.prog 68 #[.string s] w fun e' w' => e' = .returned (.bool (nameOk s)) ∧ Below w.heap.size w w' := by
  have hsz : s.size ≤ 9223372036854775807 := by unfold maxLen at hs; omega
  have kc := fun (v : World) => Lib.run_convert_string_bytes (P := Tryz.prog) v 9 185 5 s Tryz.underlying9 Tryz.underlying185 Tryz.underlying5
  clear hs
  go_enter Tryz.func68, Tryz.ntmps68
  go_wp2
  generalize hW : Lib.bytesWorld w _ s = w5
  have hbl : Below w.heap.size w w5 := by
    rw [← hW]
    exact ⟨rfl, rfl, rfl, by rw [Lib.bytesWorld_size]; omega, fun b hb => Lib.bytesWorld_at_old w _ s b hb⟩
  have hce : ∀ j, j < s.size → w5.cell? ⟨w.heap.size, j, none⟩ = some (.int .u8 (byt s j)) := fun j hj => by
    rw [← hW]; exact Lib.bytesWorld_cell w _ s j hj
  have HB := Lib.hid hbl
  have HC := Lib.hid hce
  clear hW hbl hce kc
  go_loop [9] (fun i => ∃ k : Nat, i = .int .i64 k ∧ k ≤ s.size ∧ Hid (nmUpto s k = true)) (fun i => s.size - (intOf i).toNat)
  case atStart => exact ⟨0, rfl, Nat.zero_le _, Lib.hid rfl⟩
  case round =>
    obtain ⟨k, rfl, hk, HN⟩ := hrel
    have k0 : (0 : Int) ≤ (k : Int) := by omega
    rcases Nat.lt_or_ge k s.size with hlt | hge
    · have hc := HC.out k hlt
      have hb := byt_bd s k
      have k1 : (k : Int) < (s.size : Int) := by omega
      obtain ⟨x, hx⟩ : ∃ x, x = byt s k := ⟨_, rfl⟩
      rw [← hx] at hc hb
      have HX := Lib.hid hx
      have HWN := Lib.hid (fun v => d_within_any x 48 57 v)
      clear hx
      rcases ch_cases x with ⟨h1, h2⟩ | ⟨h1, h2, h3⟩ | ⟨h1, h2⟩ | ⟨h1, h2, h3⟩ | ⟨h1, h2, h3, h4⟩
      · have HOK := Lib.hid (show okCh (byt s k) k = true by rw [← HX.out]; exact ok_let k (by omega))
        go_wp2
        go_round
        case rel => exact ⟨k + 1, by go_num, by omega, Lib.hid (show nmUpto s (k + 1) = true by show (nmUpto s k && okCh (byt s k) k) = true; rw [HN.out, HOK.out]; rfl)⟩
        case measure => simp [intOf]; omega
      · have HOK := Lib.hid (show okCh (byt s k) k = true by rw [← HX.out]; exact ok_let k (by omega))
        go_wp2
        go_round
        case rel => exact ⟨k + 1, by go_num, by omega, Lib.hid (show nmUpto s (k + 1) = true by show (nmUpto s k && okCh (byt s k) k) = true; rw [HN.out, HOK.out]; rfl)⟩
        case measure => simp [intOf]; omega
      all_goals
        by_cases hk0 : k = 0
        · subst hk0
          have HOK := Lib.hid (show okCh (byt s 0) 0 = false by rw [← HX.out]; exact ok_zero (by omega))
          go_wp2
          go_ret
          exact ⟨ret_bool (nm_stop hlt (HOK.out)).symm, HB.out⟩
        · have hk1 : ((k : Int) == 0) = false := by simp; omega
          by_cases h45 : x = 45
          · have h46 : (x != 45) = false := by simpa using h45
            have H45 := Lib.hid h45
            clear h45
            go_wp2
            go_round
            case rel => exact ⟨k + 1, by go_num, by omega, Lib.hid (show nmUpto s (k + 1) = true by show (nmUpto s k && okCh (byt s k) k) = true; rw [HN.out, ok_pos hk0 (.inl (HX.out.symm.trans H45.out))]; rfl)⟩
            case measure => simp [intOf]; omega
          · have h46 : (x != 45) = true := by simpa using h45
            have H45 := Lib.hid h45
            clear h45
            cases hw : wi x 48 57
            · have HWF := Lib.hid (wi_false.1 hw)
              rw [hw] at HWN
              clear hw
              have HOK := Lib.hid (show okCh (byt s k) k = false by rw [← HX.out]; exact ok_neg (by omega) H45.out HWF.out)
              go_wp2_with fail
              refine (HWN.out _).mono ?_
              rintro e9 w9 ⟨rfl, rfl⟩
              go_wp2
              go_ret
              exact ⟨ret_bool (nm_stop hlt (HOK.out)).symm, HB.out⟩
            · have HWT := Lib.hid (wi_iff.1 hw)
              rw [hw] at HWN
              clear hw
              have HOK := Lib.hid (show okCh (byt s k) k = true by rw [← HX.out]; exact ok_pos hk0 (.inr HWT.out))
              go_wp2_with fail
              refine (HWN.out _).mono ?_
              rintro e9 w9 ⟨rfl, rfl⟩
              go_wp2
              go_round
              case rel => exact ⟨k + 1, by go_num, by omega, Lib.hid (show nmUpto s (k + 1) = true by show (nmUpto s k && okCh (byt s k) k) = true; rw [HN.out, HOK.out]; rfl)⟩
              case measure => simp [intOf]; omega
    · obtain rfl : k = s.size := by omega
      go_wp2_with fail
      refine (d_within_any _ _ _ _).mono ?_
      rintro e9 w9 ⟨rfl, rfl⟩
      go_wp2
      go_ret
      exact ⟨ret_bool (by unfold nameOk; rw [HN.out]; rfl), HB.out⟩
end Go.Proofs.YtdklmcicogmeaaaGreat
