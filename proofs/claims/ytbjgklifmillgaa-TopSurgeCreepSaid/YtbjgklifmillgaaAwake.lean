import Derived.Test.YtbjgklifmillgaaFracsEq
import Derived.Test.YtbjgklifmillgaaMSch
import Derived.Test.YtbjgklifmillgaaStep1
/- The examples of the chapter hold. -/
namespace Go.Proofs.Ytbjgklifmillgaa
open Go.RowKit
set_option linter.unusedVariables false

theorem sl_alloc {w0 w : World} {cs : List Value} {t B n sz : Nat} (hB : B = w0.heap.size) (hb : Below (B + 1) (w0.alloc (.cells cs.toArray t)) w) (hl : cs.length = n * sz) (hn : n ≤ 1000) : SlR w (some ⟨B, 0, none⟩) n sz cs :=
  (SlR.lit w0 (w0.alloc (.cells cs.toArray t)) cs t B n sz rfl hB hl hn).below (by rw [World.size_alloc, ← hB]; exact hb)
set_option maxRecDepth 100000 in
theorem ladder_any (w : World) : Calls Try.prog 57 #[] w fun e' w' => ∃ g1 g2 g3, e' = .returned (.agg #[.slice (some ⟨g1, 0, none⟩) 2 2, .slice (some ⟨g2, 0, none⟩) 2 2, .slice (some ⟨g3, 0, none⟩) 2 2, .bool true]) ∧ Below w.heap.size w w' ∧
    IntsR w' (some ⟨g1, 0, none⟩) 2 [2, 2] ∧ IntsR w' (some ⟨g2, 0, none⟩) 2 [1, 0] ∧ IntsR w' (some ⟨g3, 0, none⟩) 2 [1, 3] := by
  go_enter Try.func57, Try.ntmps57
  go_wp2
  refine bodyPost_ret (v := .agg #[.slice (some ⟨w.heap.size + 1, 0, none⟩) 2 2, .slice (some ⟨w.heap.size + 1 + 1, 0, none⟩) 2 2, .slice (some ⟨w.heap.size + 1 + 1 + 1, 0, none⟩) 2 2, .bool true]) (by simp [results, Try.results57, go_sem]) rfl ⟨_, _, _, rfl, ?_, ?_, ?_, ?_⟩
  · (repeat' (first | (with_reducible exact Below.refl _ _) | (with_reducible assumption) | (with_reducible refine Below.drewN ?_ _) | (with_reducible refine Below.alloc ?_ ?_ _) | (with_reducible refine Below.drew ?_) | (with_reducible refine Below.setCell ?_ ?_ _) | (with_reducible refine Below.step (by assumption) ?_ ?_) | (with_reducible exact And.left (by assumption)) | go_size))
  · exact sl_alloc (w0 := w.alloc _) (t := 3) (cs := [.int .i64 2, .int .i64 2]) (by simp) (by (repeat' (first | (with_reducible exact Below.refl _ _) | (with_reducible assumption) | (with_reducible refine Below.drewN ?_ _) | (with_reducible refine Below.alloc ?_ ?_ _) | (with_reducible refine Below.drew ?_) | (with_reducible refine Below.setCell ?_ ?_ _) | (with_reducible refine Below.step (by assumption) ?_ ?_) | (with_reducible exact And.left (by assumption)) | go_size))) rfl (by omega)
  · exact sl_alloc (w0 := (w.alloc _).alloc _) (t := 3) (cs := [.int .i64 1, .int .i64 0]) (by simp) (by (repeat' (first | (with_reducible exact Below.refl _ _) | (with_reducible assumption) | (with_reducible refine Below.drewN ?_ _) | (with_reducible refine Below.alloc ?_ ?_ _) | (with_reducible refine Below.drew ?_) | (with_reducible refine Below.setCell ?_ ?_ _) | (with_reducible refine Below.step (by assumption) ?_ ?_) | (with_reducible exact And.left (by assumption)) | go_size))) rfl (by omega)
  · exact sl_alloc (w0 := ((w.alloc _).alloc _).alloc _) (t := 3) (cs := [.int .i64 1, .int .i64 3]) (by simp) (by (repeat' (first | (with_reducible exact Below.refl _ _) | (with_reducible assumption) | (with_reducible refine Below.drewN ?_ _) | (with_reducible refine Below.alloc ?_ ?_ _) | (with_reducible refine Below.drew ?_) | (with_reducible refine Below.setCell ?_ ?_ _) | (with_reducible refine Below.step (by assumption) ?_ ?_) | (with_reducible exact And.left (by assumption)) | go_size))) rfl (by omega)
set_option maxRecDepth 100000 in
theorem ranges_any (w : World) : Calls Try.prog 58 #[] w fun e' w' => ∃ g1 g2, e' = .returned (.agg #[.slice (some ⟨g1, 0, none⟩) 2 2, .slice (some ⟨g2, 0, none⟩) 2 2, .bool true]) ∧ Below w.heap.size w w' ∧
    PairsR w' (some ⟨g1, 0, none⟩) 2 [(1, 2), (2, 2)] ∧ PairsR w' (some ⟨g2, 0, none⟩) 2 [(0, 1), (0, 0)] := by
  go_enter Try.func58, Try.ntmps58
  go_wp2
  refine bodyPost_ret (v := .agg #[.slice (some ⟨w.heap.size + 1, 0, none⟩) 2 2, .slice (some ⟨w.heap.size + 1 + 1, 0, none⟩) 2 2, .bool true]) (by simp [results, Try.results58, go_sem]) rfl ⟨_, _, rfl, ?_, ?_, ?_⟩
  · (repeat' (first | (with_reducible exact Below.refl _ _) | (with_reducible assumption) | (with_reducible refine Below.drewN ?_ _) | (with_reducible refine Below.alloc ?_ ?_ _) | (with_reducible refine Below.drew ?_) | (with_reducible refine Below.setCell ?_ ?_ _) | (with_reducible refine Below.step (by assumption) ?_ ?_) | (with_reducible exact And.left (by assumption)) | go_size))
  · exact sl_alloc (w0 := w.alloc _) (t := 90) (cs := [.int .i64 1, .int .i64 2, .int .i64 2, .int .i64 2]) (by simp) (by (repeat' (first | (with_reducible exact Below.refl _ _) | (with_reducible assumption) | (with_reducible refine Below.drewN ?_ _) | (with_reducible refine Below.alloc ?_ ?_ _) | (with_reducible refine Below.drew ?_) | (with_reducible refine Below.setCell ?_ ?_ _) | (with_reducible refine Below.step (by assumption) ?_ ?_) | (with_reducible exact And.left (by assumption)) | go_size))) rfl (by omega)
  · exact sl_alloc (w0 := (w.alloc _).alloc _) (t := 90) (cs := [.int .i64 0, .int .i64 1, .int .i64 0, .int .i64 0]) (by simp) (by (repeat' (first | (with_reducible exact Below.refl _ _) | (with_reducible assumption) | (with_reducible refine Below.drewN ?_ _) | (with_reducible refine Below.alloc ?_ ?_ _) | (with_reducible refine Below.drew ?_) | (with_reducible refine Below.setCell ?_ ?_ _) | (with_reducible refine Below.step (by assumption) ?_ ?_) | (with_reducible exact And.left (by assumption)) | go_size))) rfl (by omega)
theorem whole_any (x : Int) (w : World) : Calls Try.prog 23 #[.int .i64 x] w fun e' w' => e' = .returned (.agg #[.int .i64 x, .int .i64 1]) ∧ Below w.heap.size w w' := by
  go_enter Try.func23, Try.ntmps23
  go_wp2
  refine bodyPost_ret (v := .agg #[.int .i64 x, .int .i64 1]) (by simp [results, Try.results23, go_sem]) rfl ⟨rfl, ?_⟩
  (repeat' (first | (with_reducible exact Below.refl _ _) | (with_reducible assumption) | (with_reducible refine Below.drewN ?_ _) | (with_reducible refine Below.alloc ?_ ?_ _) | (with_reducible refine Below.drew ?_) | (with_reducible refine Below.setCell ?_ ?_ _) | (with_reducible refine Below.step (by assumption) ?_ ?_) | (with_reducible exact And.left (by assumption)) | go_size))
theorem ex_init : initOf [2, 2] [1, 0] 2 1 = [(1, 1), (2, 5), (0, 1)] := by decide +kernel
theorem ex_lad : ladErr [2, 2] [1, 0] [1, 3] = 0 := by decide +kernel
theorem ex_rng : rngErr [(1, 2), (2, 2)] [(0, 1), (0, 0)] = 0 := by decide +kernel
theorem ex_gap1 : gapFr [(1, 2), (2, 2)] [(0, 1), (0, 0)] 2 1 0 false = (1, 2) := by decide +kernel
theorem ex_gap2 : gapFr [(1, 2), (2, 2)] [(0, 1), (0, 0)] 2 1 0 true = (3, 4) := by decide +kernel
theorem ex_st : stErr [1, 3] [8, 0] [0, 0] = 0 := by decide +kernel
theorem ex_F : outF [1, 3] [8, 0] [0, 0] 0 = [0, 4] := by decide +kernel
theorem ex_B : outB [1, 3] [8, 0] [0, 0] true = [-4, 0] := by decide +kernel
theorem ex_V : outV [1, 3] [8, 0] [0, 0] 0 true = [0, 4, 0] := by decide +kernel
theorem ex_st2 : stErr [1, 3] [0, 4] [-4, 0] = 0 := by decide +kernel
theorem ex_imp : (impErr [(0, 0), (2, 100), (50, 50)]).2 = 0 := by decide +kernel
theorem ex_val : low (valOf [(0, 0), (2, 100), (50, 50)] 26).1 (valOf [(0, 0), (2, 100), (50, 50)] 26).2 = (75, 1) := by decide +kernel

end Go.Proofs.Ytbjgklifmillgaa
