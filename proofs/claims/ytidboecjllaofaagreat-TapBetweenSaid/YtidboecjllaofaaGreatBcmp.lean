import Derived.Test.YtidboecjllaofaaGreatUPlain0
/- Fractions compared, of the reference. -/
namespace Go.Proofs.YtidboecjllaofaaGreat
open Go.RowKit
set_option linter.unusedVariables false
def cmpJ (x y : Int) : Int := if x < y then -1 else if y < x then 1 else 0
theorem bcmpJ_any (a1 a2 b1 b2 : Int) (w : World) (h1 : -4000000000000000000 ≤ a1 * b2 ∧ a1 * b2 ≤ 4000000000000000000) (h2 : -4000000000000000000 ≤ b1 * a2 ∧ b1 * a2 ≤ 4000000000000000000) :
    Calls Tryz.prog 68 #[.agg #[.int .i64 a1, .int .i64 a2], .agg #[.int .i64 b1, .int .i64 b2]] w fun e' w' => e' = .returned (.int .i64 (cmpJ (a1 * b2) (b1 * a2))) ∧ Below w.heap.size w w' := by
 obtain ⟨R, hR⟩ : ∃ R, R = cmpJ (a1 * b2) (b1 * a2) := ⟨_, rfl⟩
 rw [← hR]
 have HR := Lib.hid hR
 clear hR
 go_enter Tryz.func68, Tryz.ntmps68
 go_wp2
 go_quiet (fail)
 go_wp2_with fail
 all_goals
  go_ret
  refine ⟨ret_int (by rw [HR.out]; unfold cmpJ; (repeat' split) <;> first | rfl | omega), ?_⟩
  (repeat' first|(with_reducible first|exact bw1|assumption|refine bw2 ?_ _|refine bw3 ?_ ?_ _|refine bw4 ?_|refine bw5 ?_ ?_ _|refine bw6 (by assumption) ?_ ?_|exact And.left (by assumption))|go_size)
end Go.Proofs.YtidboecjllaofaaGreat
