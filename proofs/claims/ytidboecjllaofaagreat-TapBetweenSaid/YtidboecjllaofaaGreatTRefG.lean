import Derived.Test.YtidboecjllaofaaGreatBcmp
import Derived.Test.YtidboecjllaofaaGreatTRefF
/- Safe states and safe changes in the reference. -/
namespace Go.Proofs.YtidboecjllaofaaGreat
open Go.RowKit Go.Shelf
set_option linter.unusedVariables false
set_option linter.unusedSimpArgs false
attribute [local go_sem] Oper.semAt_some
theorem bwhole6_any (n : Int) (w : World) : Calls Tryz.prog 35 #[.int .i64 n] w fun e' w' => e' = .returned (.agg #[.int .i64 n, .int .i64 1]) ∧ Below w.heap.size w w' := by
 go_enter Tryz.func35, Tryz.ntmps35
 go_wp2
 refine bodyPost_ret (v := .agg #[.int .i64 n, .int .i64 1]) (by simp [results, Tryz.results35, go_sem]) rfl ⟨rfl, by (repeat' first|(with_reducible first|exact bw1|assumption|refine bw2 ?_ _|refine bw3 ?_ ?_ _|refine bw4 ?_|refine bw5 ?_ ?_ _|refine bw6 (by assumption) ?_ ?_|exact And.left (by assumption))|go_size)⟩
theorem cmpJ_pos {a b c : Int} : 0 < cmpJ (a * 1) (c * b) ↔ c * b < a := by
 unfold cmpJ
 rw [Int.mul_one]
 split
 ·constructor <;> intro h <;> omega
 ·split
  ·constructor <;> intro h <;> omega
  ·constructor <;> intro h <;> omega
theorem cmpW {a b n : Int} (w : World) (ha : a.natAbs ≤ 1000000000000) (hb : 0 ≤ b ∧ b ≤ 1000000000) (hn : 0 ≤ n ∧ n ≤ 1000) : ∃ C : Int, (0 < C ↔ n * b < a) ∧ ∀ W : World, Calls Tryz.prog 68 #[.agg #[.int .i64 a, .int .i64 b], .agg #[.int .i64 n, .int .i64 1]] W (fun e' w' => e' = .returned (.int .i64 C) ∧ Below W.heap.size W w') := by
 refine ⟨_, cmpJ_pos (b := b) (c := n), fun W => bcmpJ_any a b n 1 W (by omega) ?_⟩
 have h1 := Int.mul_nonneg hn.1 hb.1
 have h2 : n * b ≤ 1000 * 1000000000 := Int.mul_le_mul hn.2 hb.2 hb.1 (by decide)
 omega
end Go.Proofs.YtidboecjllaofaaGreat
