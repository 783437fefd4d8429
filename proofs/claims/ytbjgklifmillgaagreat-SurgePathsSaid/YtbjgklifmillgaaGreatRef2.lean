import Derived.Test.YtbjgklifmillgaaGreatMLin
import Derived.Test.YtbjgklifmillgaaGreatRef1
/- Copies of lines and states, states without waves, equality of states. -/
namespace Go.Proofs.YtbjgklifmillgaaGreat
open Go.RowKit
set_option linter.unusedVariables false

theorem makeInts (P : Program) (w : World) (t e : TypeId) (ht : P.underlying t = some (.slice e)) (hi : (P.info? e).map (fun i => (i.zero, i.size, i.bytes)) = some (some (.int .i64 0), 1, 8)) (n : Nat) (hn : n ≤ 100000) :
    (Instr.makeSlice t (.int .i64 n) (.int .i64 n)).run P w = .ok (.slice (some ⟨w.heap.size, 0, none⟩) n n) (w.alloc (.cells (madeCells #[.int .i64 0] n) e)) := by
  obtain ⟨i, hi1, hi2, hi3, hi4⟩ := info_parts hi
  have hr := run_make (P := P) w t e i _ ht hi1 hi2 .i64 .i64 n n (by omega) (Int.le_refl _) (by rw [hi4]; omega) (by omega)
  simp only [Int.toNat_natCast, hi3, Nat.mul_one] at hr
  exact hr

set_option maxRecDepth 100000 in
theorem begin_any (a : Option Addr) (n c : Nat) (e : Bool) (w : World) (hn : n ≤ 1000) :
    Calls Tryz.prog 78 #[.agg #[.slice a n c, .bool e]] w fun e' w' => ∃ g1 g2, e' = .returned (.agg #[.slice (some ⟨g1, 0, none⟩) n n, .slice (some ⟨g2, 0, none⟩) n n]) ∧ Below w.heap.size w w' ∧ g1 ≠ g2 ∧ w'.ownsRow w.heap.size 3 1 (.slice (some ⟨g1, 0, none⟩) n n) n (icells (List.replicate n 0)) ∧ w'.ownsRow w.heap.size 3 1 (.slice (some ⟨g2, 0, none⟩) n n) n (icells (List.replicate n 0)) := by
  have hmk := fun w' => makeInts Tryz.prog w' 22 3 Tryz.underlying22 infoInt n (by omega)
  generalize hcs : madeCells #[Value.int .i64 0] n = cs at hmk
  have HCS := Lib.hid hcs
  clear hcs
  have hL : icells (List.replicate n 0) = cs.toList := by rw [← HCS.out, toList_madeCells_one]; simp [icells]
  have hsz : cs.size = n * 1 := by rw [← HCS.out]; simp [size_madeCells]
  rw [hL]
  have HSZ := Lib.hid hsz
  clear hsz hL
  go_enter Tryz.func78, Tryz.ntmps78
  go_wp2
  go_region
  · go_wp2
    refine bodyPost_ret (v := .agg #[.slice (some ⟨w.heap.size + 1 + 1, 0, none⟩) n n, .slice (some ⟨w.heap.size + 1 + 1 + 1, 0, none⟩) n n]) (by simp [results, Tryz.results78, go_sem]) rfl ⟨_, _, rfl, ?_, by omega, ?_, ?_⟩
    · (repeat' (first | (with_reducible exact Below.refl _ _) | (with_reducible assumption) | (with_reducible refine Below.drewN ?_ _) | (with_reducible refine Below.alloc ?_ ?_ _) | (with_reducible refine Below.drew ?_) | (with_reducible refine Below.setCell ?_ ?_ _) | (with_reducible refine Below.step (by assumption) ?_ ?_) | (with_reducible exact And.left (by assumption)) | go_size))
    · have hsz := HSZ.out
      refine owns_mono (base := w.heap.size + 1 + 1) ?_ (by omega)
      (repeat' (first | (with_reducible assumption) | ((with_reducible refine owns_lit ?_ ?_ ?_ ?_) <;> first | (simp; done) | (simp; omega) | omega) | (with_reducible refine World.ownsRow.alloc ?_ _) | (with_reducible refine World.ownsRow.drew ?_) | (with_reducible refine owns_drewN ?_ _) | (with_reducible refine ownsRow_setCell_below ?_ ?_ _) | (simp; done) | (simp; omega) | omega))
    · have hsz := HSZ.out
      refine owns_mono (base := w.heap.size + 1 + 1) ?_ (by omega)
      (repeat' (first | (with_reducible assumption) | ((with_reducible refine owns_lit ?_ ?_ ?_ ?_) <;> first | (simp; done) | (simp; omega) | omega) | (with_reducible refine World.ownsRow.alloc ?_ _) | (with_reducible refine World.ownsRow.drew ?_) | (with_reducible refine owns_drewN ?_ _) | (with_reducible refine ownsRow_setCell_below ?_ ?_ _) | (simp; done) | (simp; omega) | omega))
  · go_wp2
    refine bodyPost_ret (v := .agg #[.slice (some ⟨w.heap.size + 1 + 1 + 1, 0, none⟩) n n, .slice (some ⟨w.heap.size + 1 + 1, 0, none⟩) n n]) (by simp [results, Tryz.results78, go_sem]) rfl ⟨_, _, rfl, ?_, by omega, ?_, ?_⟩
    · (repeat' (first | (with_reducible exact Below.refl _ _) | (with_reducible assumption) | (with_reducible refine Below.drewN ?_ _) | (with_reducible refine Below.alloc ?_ ?_ _) | (with_reducible refine Below.drew ?_) | (with_reducible refine Below.setCell ?_ ?_ _) | (with_reducible refine Below.step (by assumption) ?_ ?_) | (with_reducible exact And.left (by assumption)) | go_size))
    · have hsz := HSZ.out
      refine owns_mono (base := w.heap.size + 1 + 1) ?_ (by omega)
      (repeat' (first | (with_reducible assumption) | ((with_reducible refine owns_lit ?_ ?_ ?_ ?_) <;> first | (simp; done) | (simp; omega) | omega) | (with_reducible refine World.ownsRow.alloc ?_ _) | (with_reducible refine World.ownsRow.drew ?_) | (with_reducible refine owns_drewN ?_ _) | (with_reducible refine ownsRow_setCell_below ?_ ?_ _) | (simp; done) | (simp; omega) | omega))
    · have hsz := HSZ.out
      refine owns_mono (base := w.heap.size + 1 + 1) ?_ (by omega)
      (repeat' (first | (with_reducible assumption) | ((with_reducible refine owns_lit ?_ ?_ ?_ ?_) <;> first | (simp; done) | (simp; omega) | omega) | (with_reducible refine World.ownsRow.alloc ?_ _) | (with_reducible refine World.ownsRow.drew ?_) | (with_reducible refine owns_drewN ?_ _) | (with_reducible refine ownsRow_setCell_below ?_ ?_ _) | (simp; done) | (simp; omega) | omega))
end Go.Proofs.YtbjgklifmillgaaGreat
