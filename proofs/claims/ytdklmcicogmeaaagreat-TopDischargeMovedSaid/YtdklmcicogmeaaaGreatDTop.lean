import Derived.Test.YtdklmcicogmeaaaGreatDAwk
/- The chapter's examples, as the laws of the whole program ask for them. -/
namespace Go.Proofs.YtdklmcicogmeaaaGreat
open Go.RowKit
set_option linter.unusedVariables false

set_option maxHeartbeats 2000000 in
set_option maxRecDepth 100000 in
theorem topAwake9_any (w : World) : Calls Tryz.prog 33 #[] w fun e' w' => e' = .returned (.bool true) ∧ Below w.heap.size w w' := by
  go_enter Tryz.func33, Tryz.ntmps33
  go_wp2_with fail
  refine (series9_any _).mono ?_
  rintro e5 w5 ⟨g, rfl, hb5, ht5⟩
  go_wp2_with fail
  refine (show Calls _ _ _ _ _ from chargeOf_any exSer (some ⟨g, 0, none⟩) 3 3 w5 ex_ser ht5).mono ?_
  rintro e6 w6 ⟨rfl, hb6⟩
  rw [ex_chg]
  have HB6 := Lib.hid (hb5.trans (hb6.mono hb5.size))
  clear hb5 hb6 ht5
  go_wp2_with fail
  refine (grid9_any _).mono ?_
  rintro e7 w7 ⟨rfl, hb7⟩
  go_wp2_with fail
  refine (arrivals9_any _).mono ?_
  rintro e8 w8 ⟨g8, rfl, hb8, ht8⟩
  go_wp2_with fail
  refine (show Calls _ _ _ _ _ from answerAt_any exGri exArr ⟨0, 0, 0⟩ (some ⟨g8, 0, none⟩) 2 2 w8 ht8).mono ?_
  rintro e9 w9 ⟨rfl, hb9⟩
  rw [if_pos ex_ansE, ex_ans, ex_ansE]
  have hz7 := hb7.size
  have hz8 := hb8.size
  have hz9 := hb9.size
  simp only [World.size_alloc] at hz7
  have k1 : w9.heap[w6.heap.size]? = some (.cells #[.int .i64 12, .int .i64 17] 35) := by rw [hb9.block _ (by omega), hb8.block _ (by omega), hb7.block _ (by simp)]; exact heap_alloc_new _ _
  have HB9 := Lib.hid (show Below w.heap.size w w9 from (HB6.out.alloc HB6.out.size _).trans ((hb7.trans ((hb8.mono hb7.size).trans (hb9.mono (Nat.le_trans hb7.size hb8.size)))).mono (by simp; have := HB6.out.size; omega)))
  obtain ⟨X1, hX1⟩ : ∃ X, X = w6.heap.size := ⟨_, rfl⟩
  rw [← hX1] at k1 ⊢
  have x1 : X1 < w9.heap.size := by omega
  clear hb7 hb8 hb9 ht8 hz7 hz8 hz9 hX1 HB6
  have c0 := cell_of_row _ _ 0 _ _ _ k1
  have c1 := cell_of_row _ _ 1 _ _ _ k1
  simp only [List.getElem?_toArray, List.getElem?_cons_zero, List.getElem?_cons_succ] at c0 c1
  go_wp2
  go_ret
  exact ⟨rfl, HB9.out⟩
end Go.Proofs.YtdklmcicogmeaaaGreat
