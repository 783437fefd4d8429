import Derived.Test.YtbjgklifmillgaaAwake
import Derived.Test.YtbjgklifmillgaaMRf
import Derived.Test.YtbjgklifmillgaaRngLib
/- The examples that the top laws of chapter 4 check. -/
namespace Go.Proofs.Ytbjgklifmillgaa
open Go.RowKit
set_option linter.unusedVariables false

set_option maxHeartbeats 1000000 in
set_option maxRecDepth 100000 in
theorem topAwake_any (w : World) : Calls Try.prog 15 #[] w fun e' w' => e' = .returned (.bool true) ∧ Below w.heap.size w w' := by
  go_enter Try.func15, Try.ntmps15
  go_wp2_with fail
  refine (ladder_any _).mono ?_
  rintro e5 w5 ⟨g1, g2, g3, rfl, hb5, hi1, hi2, hi3⟩
  have H1 := Lib.hid (And.intro hi1 (And.intro hi2 hi3))
  have HB5 := Lib.hid hb5
  clear hi1 hi2 hi3 hb5
  go_wp2_with fail
  refine (initialOf_ok [2, 2] [1, 0] [1, 3] _ _ _ 2 2 2 2 2 2 1 true w5 H1.out.1 H1.out.2.1 H1.out.2.2 ex_lad rfl).mono ?_
  rintro e6 w6 ⟨hb6, hp⟩
  rw [ex_init] at hp
  rcases hp with ⟨h, _⟩ | ⟨_, au, cu, rfl, hu⟩
  · exact absurd h (by decide +kernel)
  have HB6 := Lib.hid (HB5.out.trans (hb6.mono HB5.out.size))
  have HU6 := Lib.hid hu
  clear hb6 hu H1 HB5
  go_wp2_with fail
  refine (ranges_any _).mono ?_
  rintro e7 w7 ⟨g4, g5, rfl, hb7, hi1, hi2⟩
  have H1 := Lib.hid (And.intro hi1 hi2)
  have HB7 := Lib.hid (HB6.out.trans (hb7.mono HB6.out.size))
  have HU7 := Lib.hid (HU6.out.below hb7)
  clear hi1 hi2 hb7 HB6 HU6
  have HG := gapSpan_ok _ _ _ _ 2 2 2 2 1 0 true 0 rfl w7 H1.out.1 H1.out.2 ex_rng rfl (by omega)
  rw [ex_gap1, ex_gap2, if_pos (by decide +kernel)] at HG
  have HG' := Lib.hid HG
  clear HG
  go_wp2_with fail
  refine HG'.out.mono ?_
  rintro e8 w8 ⟨rfl, hb8⟩
  have HB8 := Lib.hid (HB7.out.trans (hb8.mono HB7.out.size))
  have HU8 := Lib.hid (HU7.out.below hb8)
  clear hb8 HB7 HU7 HG' H1
  obtain ⟨b, o, rfl, hlb, hcb⟩ := HU8.out.addr (by omega)
  have hc0 := (hcb 1 (by omega)).1
  have hc1 := (hcb 1 (by omega)).2
  simp only [Nat.one_mul, List.getD_cons_succ, List.getD_cons_zero] at hc0 hc1
  clear hcb
  go_wp2
  go_ret
  exact ⟨rfl, by have := HB8.out; have := HB8.out.size; (repeat' (first | (with_reducible exact Below.refl _ _) | (with_reducible assumption) | (with_reducible refine Below.drewN ?_ _) | (with_reducible refine Below.alloc ?_ ?_ _) | (with_reducible refine Below.drew ?_) | (with_reducible refine Below.setCell ?_ ?_ _) | (with_reducible refine Below.step (by assumption) ?_ ?_) | (with_reducible exact And.left (by assumption)) | go_size))⟩
end Go.Proofs.Ytbjgklifmillgaa

/- TopSurgeCreep: what its guards leave out. -/
namespace Go.Proofs.Ytbjgklifmillgaa
open Go.RowKit
set_option linter.unusedVariables false

set_option maxHeartbeats 1000000 in
set_option maxRecDepth 100000 in
theorem crp_few (s e : List (Int × Int)) (a a1 ax : Option Addr) (n c n1 c1 nx cx : Nat) (g : Bool) (v len : Int) (w : World) (hs : PairsR w a n s) (he : PairsR w a1 n1 e) (hnx : nx ≤ 9223372036854775807)
    (h0 : rngErr s e ≠ 0 ∨ nx < 2 * n ∨ 20 < nx ∨ wi v 1 1000 = false ∨ wi len 1 100 = false) :
    Calls Try.prog 5 #[.agg #[.slice a n c, .slice a1 n1 c1, .bool g], .slice ax nx cx, .agg #[.int .i64 v, .int .i64 len]] w fun e' w' => e' = .returned (.bool true) ∧ Below w.heap.size w w' := by
  have HFS := Lib.hid (fun w' => fewRanges_any a a1 n c n1 c1 g w' hs.small he.small)
  have HLE := Lib.hid (fun (v : World) (hv : Below w.heap.size w v) => rrangesErr_any s e a a1 n c n1 c1 g v (hs.below hv) (he.below hv))
  have HW1 := Lib.hid (fun w' => bwithin_any v 1 1000 w')
  have HW2 := Lib.hid (fun w' => bwithin_any len 1 100 w')
  have hn := hs.small
  have hl := hs.len
  have h6 : rngErr s e = 0 → n ≤ 6 := fun h => by have := (rngErr_zero h).2.2.1; omega
  generalize rngErr s e = E at *
  clear hs he hl
  obtain ⟨x, hx⟩ : ∃ x, x = (decide ((n : Int) ≤ 8) && decide ((n1 : Int) ≤ 8)) := ⟨_, rfl⟩
  rw [← hx] at HFS
  clear hx
  generalize hb1 : wi v 1 1000 = b1 at *
  generalize hb2 : wi len 1 100 = b2 at *
  clear hb1 hb2
  go_enter Try.func5, Try.ntmps5
  go_wp2_with fail
  refine (topAwake_any _).mono ?_
  rintro e5 w5 ⟨rfl, hb5⟩
  have hz5 := hb5.size
  simp only [World.size_alloc] at hz5
  have q0 : w5.cell? ⟨w.heap.size, 0, none⟩ = some (.slice (a) n c) := by { rw [cellB hb5 _ _ (by first | (simp; done) | (simp; omega) | omega)]; all_goals (first | assumption | go_simp) }; have q1 : w5.cell? ⟨w.heap.size, 1, none⟩ = some (.slice (a1) n1 c1) := by { rw [cellB hb5 _ _ (by first | (simp; done) | (simp; omega) | omega)]; all_goals (first | assumption | go_simp) }; have q2 : w5.cell? ⟨w.heap.size, 2, none⟩ = some (.bool g) := by { rw [cellB hb5 _ _ (by first | (simp; done) | (simp; omega) | omega)]; all_goals (first | assumption | go_simp) }; have v0 : w5.cell? ⟨w.heap.size + 1, 0, none⟩ = some (.int .i64 v) := by { rw [cellB hb5 _ _ (by first | (simp; done) | (simp; omega) | omega)]; all_goals (first | assumption | go_simp) }; have v1 : w5.cell? ⟨w.heap.size + 1, 1, none⟩ = some (.int .i64 len) := by { rw [cellB hb5 _ _ (by first | (simp; done) | (simp; omega) | omega)]; all_goals (first | assumption | go_simp) }; have l0 : w.heap.size < w5.heap.size := by { omega }; have l1 : w.heap.size + 1 < w5.heap.size := by { omega }
  have HB5 := Lib.hid (show Below w.heap.size w w5 by (repeat' (first | (with_reducible exact Below.refl _ _) | (with_reducible assumption) | (with_reducible refine Below.drewN ?_ _) | (with_reducible refine Below.alloc ?_ ?_ _) | (with_reducible refine Below.drew ?_) | (with_reducible refine Below.setCell ?_ ?_ _) | (with_reducible refine Below.step (by assumption) ?_ ?_) | (with_reducible exact And.left (by assumption)) | go_size)))
  clear hb5
  go_wp2_with fail
  go_quiet (fail)
  go_wp2_with fail
  refine (HFS.out _).mono ?_
  rintro e6 w6 ⟨rfl, hb6⟩
  have hz6 : w5.heap.size ≤ w6.heap.size := hb6.size
  have q0c : w6.cell? ⟨w.heap.size, 0, none⟩ = some (.slice (a) n c) := by { rw [cellB hb6 _ _ (by first | (simp; done) | (simp; omega) | omega)]; all_goals (first | assumption | go_simp) }; have q1c : w6.cell? ⟨w.heap.size, 1, none⟩ = some (.slice (a1) n1 c1) := by { rw [cellB hb6 _ _ (by first | (simp; done) | (simp; omega) | omega)]; all_goals (first | assumption | go_simp) }; have q2c : w6.cell? ⟨w.heap.size, 2, none⟩ = some (.bool g) := by { rw [cellB hb6 _ _ (by first | (simp; done) | (simp; omega) | omega)]; all_goals (first | assumption | go_simp) }; have l0c : w.heap.size < w6.heap.size := by { omega }
  have HB6 := Lib.hid ((HB5.out.drewN _).trans (hb6.mono HB5.out.size))
  clear hb6 HB5 q0 q1 q2 l0 v0 v1 l1
  cases x
  · clear h0 h6
    go_wp2
    go_ret
    exact ⟨rfl, HB6.out⟩
  · go_wp2_with fail
    refine (HLE.out _ HB6.out).mono ?_
    rintro e7 w7 ⟨rfl, hb7⟩
    have hz7 := hb7.size
    have q0 : w7.cell? ⟨w.heap.size, 0, none⟩ = some (.slice (a) n c) := by { rw [cellB hb7 _ _ (by first | (simp; done) | (simp; omega) | omega)]; all_goals (first | assumption | go_simp) }; have q1 : w7.cell? ⟨w.heap.size, 1, none⟩ = some (.slice (a1) n1 c1) := by { rw [cellB hb7 _ _ (by first | (simp; done) | (simp; omega) | omega)]; all_goals (first | assumption | go_simp) }; have q2 : w7.cell? ⟨w.heap.size, 2, none⟩ = some (.bool g) := by { rw [cellB hb7 _ _ (by first | (simp; done) | (simp; omega) | omega)]; all_goals (first | assumption | go_simp) }; have l0 : w.heap.size < w7.heap.size := by { omega }
    have HB7 := Lib.hid (HB6.out.trans (hb7.mono HB6.out.size))
    clear hb7 q0c q1c q2c l0c
    by_cases hE : E = 0
    · have hn6 := h6 hE
      have h0' : nx < 2 * n ∨ 20 < nx ∨ b1 = false ∨ b2 = false := by
        rcases h0 with h | h
        · exact absurd hE h
        · exact h
      subst hE
      clear h0 h6
      by_cases hlt : nx < 2 * n
      · have j1 : (nx : Int) < 2 * (n : Int) := by omega
        clear h0' hlt
        go_wp2
        go_ret
        exact ⟨rfl, HB7.out⟩
      · have j1 : ¬ (nx : Int) < 2 * (n : Int) := by omega
        by_cases h20 : 20 < nx
        · have j2 : (20 : Int) < (nx : Int) := by omega
          clear h0' hlt h20
          go_wp2
          go_ret
          exact ⟨rfl, HB7.out⟩
        · have j2 : ¬ (20 : Int) < (nx : Int) := by omega
          have hb : b1 = false ∨ b2 = false := by
            rcases h0' with h | h | h
            · exact absurd h hlt
            · exact absurd h h20
            · exact h
          clear h0' hlt h20
          go_wp2_with fail
          refine (HW1.out _).mono ?_
          rintro e8 w8 ⟨rfl, rfl⟩
          cases b1
          · clear hb
            go_wp2
            go_ret
            exact ⟨rfl, HB7.out⟩
          · obtain rfl : b2 = false := by
              rcases hb with h | h
              · cases h
              · exact h
            go_wp2_with fail
            refine (HW2.out _).mono ?_
            rintro e8 w8 ⟨rfl, rfl⟩
            go_wp2
            go_ret
            exact ⟨rfl, HB7.out⟩
    · have hE1 : (E != 0) = true := by simpa using hE
      clear hE h0 h6
      go_wp2
      go_ret
      exact ⟨rfl, HB7.out⟩
end Go.Proofs.Ytbjgklifmillgaa
