import Derived.Test.YtbjgklifmillgaaAwake
import Derived.Test.YtbjgklifmillgaaMImp
/- Full impulses. -/
namespace Go.Proofs.Ytbjgklifmillgaa
open Go.RowKit
set_option linter.unusedVariables false

def fuE (p f t : Int) : Int := firstErr [unl (wi p (-1000000) 1000000 && (wi f 1 100000 && wi t 1 100000)) 2, unl (decide (t > f)) 9]
def fuL (p f t : Int) : List (Int × Int) := if fuE p f t = 0 then [(0, 0), (f, p), (t, p / 2), (4 * t, 0)] else []
set_option maxHeartbeats 1000000 in
set_option maxRecDepth 100000 in
theorem full_any (p f t : Int) (w : World) :
    Calls Try.prog 16 #[.int .i64 p, .int .i64 f, .int .i64 t] w fun e' w' => ∃ a n c, e' = .returned (.tuple #[.agg #[.slice a n c], .int .i64 (fuE p f t)]) ∧ Below w.heap.size w w' ∧ PairsR w' a n (fuL p f t) := by
  obtain ⟨g1, hg1⟩ : ∃ b, b = wi p (-1000000) 1000000 := ⟨_, rfl⟩
  obtain ⟨g2, hg2⟩ : ∃ b, b = wi f 1 100000 := ⟨_, rfl⟩
  obtain ⟨g3, hg3⟩ : ∃ b, b = wi t 1 100000 := ⟨_, rfl⟩
  have HG := Lib.hid (And.intro hg1 (And.intro hg2 hg3))
  have H1 := Lib.hid (fun w' => isSized_any p 1000000 w' (by omega) (by omega))
  rw [← hg1] at H1
  have H2 := Lib.hid (fun w' => isTail_any f w')
  rw [← hg2] at H2
  have H3 := Lib.hid (fun w' => isTail_any t w')
  rw [← hg3] at H3
  clear hg1 hg2 hg3
  go_enter Try.func16, Try.ntmps16
  go_wp2_with fail
  refine (H1.out _).mono ?_
  rintro e5 w5 ⟨rfl, rfl⟩
  cases g1
  · go_wp2_with fail
    have HE := Lib.hid (show fuE p f t = 2 by unfold fuE; rw [← HG.out.1, ← HG.out.2.1, ← HG.out.2.2]; rfl)
    go_wp2_with fail
    refine (unless_any _ _ _).mono ?_
    rintro e6 w6 ⟨rfl, rfl⟩
    go_wp2_with fail
    refine (unless_any _ _ _).mono ?_
    rintro e6 w6 ⟨rfl, rfl⟩
    go_wp2_with fail
    refine (first2 _ _ _ _ _ _ (by rfl) (by simp)).mono ?_
    rintro e6 w6 ⟨rfl, rfl⟩
    rw [show ∀ x, firstErr [unl false 2, x] = 2 from fun _ => rfl]
    go_wp2
    refine bodyPost_ret (v := .tuple #[.agg #[.slice none 0 0], .int .i64 2]) (by simp [results, Try.results16, go_sem]) rfl ⟨none, 0, 0, by rw [HE.out], ?_, ?_⟩
    · (repeat' (first | (with_reducible exact Below.refl _ _) | (with_reducible assumption) | (with_reducible refine Below.drewN ?_ _) | (with_reducible refine Below.alloc ?_ ?_ _) | (with_reducible refine Below.drew ?_) | (with_reducible refine Below.setCell ?_ ?_ _) | (with_reducible refine Below.step (by assumption) ?_ ?_) | (with_reducible exact And.left (by assumption)) | go_size))
    · unfold fuL; rw [if_neg (by rw [HE.out]; omega)]; exact PairsR.nil _ _
  · go_wp2_with fail
    refine (H2.out _).mono ?_
    rintro e5 w5 ⟨rfl, rfl⟩
    cases g2
    · go_wp2_with fail
      have HE := Lib.hid (show fuE p f t = 2 by unfold fuE; rw [← HG.out.1, ← HG.out.2.1, ← HG.out.2.2]; rfl)
      go_wp2_with fail
      refine (unless_any _ _ _).mono ?_
      rintro e6 w6 ⟨rfl, rfl⟩
      go_wp2_with fail
      refine (unless_any _ _ _).mono ?_
      rintro e6 w6 ⟨rfl, rfl⟩
      go_wp2_with fail
      refine (first2 _ _ _ _ _ _ (by rfl) (by simp)).mono ?_
      rintro e6 w6 ⟨rfl, rfl⟩
      rw [show ∀ x, firstErr [unl false 2, x] = 2 from fun _ => rfl]
      go_wp2
      refine bodyPost_ret (v := .tuple #[.agg #[.slice none 0 0], .int .i64 2]) (by simp [results, Try.results16, go_sem]) rfl ⟨none, 0, 0, by rw [HE.out], ?_, ?_⟩
      · (repeat' (first | (with_reducible exact Below.refl _ _) | (with_reducible assumption) | (with_reducible refine Below.drewN ?_ _) | (with_reducible refine Below.alloc ?_ ?_ _) | (with_reducible refine Below.drew ?_) | (with_reducible refine Below.setCell ?_ ?_ _) | (with_reducible refine Below.step (by assumption) ?_ ?_) | (with_reducible exact And.left (by assumption)) | go_size))
      · unfold fuL; rw [if_neg (by rw [HE.out]; omega)]; exact PairsR.nil _ _
    · go_wp2_with fail
      refine (H3.out _).mono ?_
      rintro e5 w5 ⟨rfl, rfl⟩
      cases g3
      · go_wp2_with fail
        have HE := Lib.hid (show fuE p f t = 2 by unfold fuE; rw [← HG.out.1, ← HG.out.2.1, ← HG.out.2.2]; rfl)
        go_wp2_with fail
        refine (unless_any _ _ _).mono ?_
        rintro e6 w6 ⟨rfl, rfl⟩
        go_wp2_with fail
        refine (unless_any _ _ _).mono ?_
        rintro e6 w6 ⟨rfl, rfl⟩
        go_wp2_with fail
        refine (first2 _ _ _ _ _ _ (by rfl) (by simp)).mono ?_
        rintro e6 w6 ⟨rfl, rfl⟩
        rw [show ∀ x, firstErr [unl false 2, x] = 2 from fun _ => rfl]
        go_wp2
        refine bodyPost_ret (v := .tuple #[.agg #[.slice none 0 0], .int .i64 2]) (by simp [results, Try.results16, go_sem]) rfl ⟨none, 0, 0, by rw [HE.out], ?_, ?_⟩
        · (repeat' (first | (with_reducible exact Below.refl _ _) | (with_reducible assumption) | (with_reducible refine Below.drewN ?_ _) | (with_reducible refine Below.alloc ?_ ?_ _) | (with_reducible refine Below.drew ?_) | (with_reducible refine Below.setCell ?_ ?_ _) | (with_reducible refine Below.step (by assumption) ?_ ?_) | (with_reducible exact And.left (by assumption)) | go_size))
        · unfold fuL; rw [if_neg (by rw [HE.out]; omega)]; exact PairsR.nil _ _
      · have b1 := wi_iff.1 HG.out.1.symm
        have b2 := wi_iff.1 HG.out.2.1.symm
        have b3 := wi_iff.1 HG.out.2.2.symm
        by_cases htf : t > f
        · have htd : decide (t > f) = true := by simpa using htf
          go_wp2_with fail
          have HE := Lib.hid (show fuE p f t = 0 by unfold fuE; rw [← HG.out.1, ← HG.out.2.1, ← HG.out.2.2]; simp [htd, firstErr, unl])
          go_wp2_with fail
          refine (unless_any _ _ _).mono ?_
          rintro e6 w6 ⟨rfl, rfl⟩
          go_wp2_with fail
          refine (unless_any _ _ _).mono ?_
          rintro e6 w6 ⟨rfl, rfl⟩
          go_wp2_with fail
          refine (first2 _ _ _ _ _ _ (by rfl) (by simp)).mono ?_
          rintro e6 w6 ⟨rfl, rfl⟩
          rw [show firstErr [unl true 2, unl true 9] = 0 from rfl]
          go_wp2_with fail
          refine (sfloor_pos p 2 _ (by omega) (by omega) (by omega) (by omega)).mono ?_
          rintro e7 w7 ⟨rfl, rfl⟩
          have HL := Lib.hid (show fuL p f t = [(0, 0), (f, p), (t, p / 2), (4 * t, 0)] by unfold fuL; rw [if_pos HE.out])
          go_wp2
          refine bodyPost_ret (v := .tuple #[.agg #[.slice (some ⟨w.heap.size + 1 + 1, 0, none⟩) 4 4], .int .i64 0]) (by simp [results, Try.results16, go_sem]) rfl ⟨_, 4, 4, by rw [HE.out], ?_, ?_⟩
          · (repeat' (first | (with_reducible exact Below.refl _ _) | (with_reducible assumption) | (with_reducible refine Below.drewN ?_ _) | (with_reducible refine Below.alloc ?_ ?_ _) | (with_reducible refine Below.drew ?_) | (with_reducible refine Below.setCell ?_ ?_ _) | (with_reducible refine Below.step (by assumption) ?_ ?_) | (with_reducible exact And.left (by assumption)) | go_size))
          · rw [HL.out]
            exact sl_alloc (w0 := (w.alloc _).alloc _) (t := 135) (cs := [.int .i64 0, .int .i64 0, .int .i64 f, .int .i64 p, .int .i64 t, .int .i64 (p / 2), .int .i64 (4 * t), .int .i64 0]) (by simp) (by (repeat' (first | (with_reducible exact Below.refl _ _) | (with_reducible assumption) | (with_reducible refine Below.drewN ?_ _) | (with_reducible refine Below.alloc ?_ ?_ _) | (with_reducible refine Below.drew ?_) | (with_reducible refine Below.setCell ?_ ?_ _) | (with_reducible refine Below.step (by assumption) ?_ ?_) | (with_reducible exact And.left (by assumption)) | go_size))) rfl (by omega)
        · have htd : decide (t > f) = false := by simpa using htf
          go_wp2_with fail
          have HE := Lib.hid (show fuE p f t = 9 by unfold fuE; rw [← HG.out.1, ← HG.out.2.1, ← HG.out.2.2]; simp [htd, firstErr, unl])
          go_wp2_with fail
          refine (unless_any _ _ _).mono ?_
          rintro e6 w6 ⟨rfl, rfl⟩
          go_wp2_with fail
          refine (unless_any _ _ _).mono ?_
          rintro e6 w6 ⟨rfl, rfl⟩
          go_wp2_with fail
          refine (first2 _ _ _ _ _ _ (by rfl) (by simp)).mono ?_
          rintro e6 w6 ⟨rfl, rfl⟩
          rw [show firstErr [unl true 2, unl false 9] = 9 from rfl]
          go_wp2
          refine bodyPost_ret (v := .tuple #[.agg #[.slice none 0 0], .int .i64 9]) (by simp [results, Try.results16, go_sem]) rfl ⟨none, 0, 0, by rw [HE.out], ?_, ?_⟩
          · (repeat' (first | (with_reducible exact Below.refl _ _) | (with_reducible assumption) | (with_reducible refine Below.drewN ?_ _) | (with_reducible refine Below.alloc ?_ ?_ _) | (with_reducible refine Below.drew ?_) | (with_reducible refine Below.setCell ?_ ?_ _) | (with_reducible refine Below.step (by assumption) ?_ ?_) | (with_reducible exact And.left (by assumption)) | go_size))
          · unfold fuL; rw [if_neg (by rw [HE.out]; omega)]; exact PairsR.nil _ _
end Go.Proofs.Ytbjgklifmillgaa
