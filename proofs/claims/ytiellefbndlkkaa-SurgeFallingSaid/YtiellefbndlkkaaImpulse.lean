/- Which impulses are valid, and the value at a time. -/
import Derived.Test.YtiellefbndlkkaaFrac
namespace Go.Proofs.Ytiellefbndlkkaa
open Go.RowKit
set_option linter.unusedVariables false

/-- A point of an impulse. -/
abbrev gp (l : List (Int × Int)) (i : Nat) : Int × Int := l.getD i (0, 0)
def ptOk (l : List (Int × Int)) (i : Nat) : Bool := wi (gp l i).1 0 1000000 && wi (gp l i).2 (-1000000) 1000000
def ptLater (l : List (Int × Int)) (i : Nat) : Bool := decide (i = 0) || decide ((gp l i).1 > (gp l (i - 1)).1)
def ptErr (l : List (Int × Int)) (i : Nat) : Int := firstErr [unl (ptOk l i) 2, unl (ptLater l i) 9]
def impScan (l : List (Int × Int)) : Nat → Nat → Int × Int
  | 0, _ => (0, 0)
  | m + 1, i => if ptErr l i = 0 then impScan l m (i + 1) else ((i : Int), ptErr l i)
/-- The index and the error of an impulse. -/
def impErr (l : List (Int × Int)) : Int × Int :=
  if 2 ≤ l.length then (if l.length ≤ 12 then impScan l l.length 0 else (0, 8)) else (0, 10)

theorem unl_and (b1 b2 : Bool) (e1 e2 : Int) (h1 : e1 ≠ 0) (h2 : e2 ≠ 0) : (firstErr [unl b1 e1, unl b2 e2] = 0) ↔ (b1 = true ∧ b2 = true) := by
  cases b1 <;> cases b2 <;> simp [firstErr, unl, h1, h2]

set_option maxRecDepth 100000 in
theorem checkImpulse_short (a : Option Addr) (n c : Nat) (w : World) (E : Int) (hn : n ≤ 9223372036854775807) (h : (n < 2 ∧ E = 10) ∨ (12 < n ∧ E = 8)) :
    Calls Try.prog 50 #[.agg #[.slice a n c]] w fun e' w' => e' = .returned (.tuple #[.int .i64 0, .int .i64 E]) ∧ Below w.heap.size w w' := by
  have HE := Lib.hid (show firstErr [unl (decide (2 ≤ (n : Int))) 10, unl (decide ((n : Int) ≤ 12)) 8] = E by
    rcases h with ⟨h, rfl⟩ | ⟨h, rfl⟩
    · rw [show decide (2 ≤ (n : Int)) = false by simp; omega]; rfl
    · rw [show decide (2 ≤ (n : Int)) = true by simp; omega, show decide ((n : Int) ≤ 12) = false by simp; omega]; rfl)
  have h1 : (E != 0) = true := by rcases h with ⟨_, rfl⟩ | ⟨_, rfl⟩ <;> rfl
  clear h
  go_enter Try.func50, Try.ntmps50
  go_wp2_with fail
  refine later_of_eq 9 (by kernel_rfl) (by kernel_rfl) ?_; simp only [List.take_succ_cons, List.take_zero, List.drop_succ_cons, List.drop_zero]; repeat go_big_quiet_step (exact calls_later_same (unless_any _ _ _))
  refine wpQuiet_nil ?_; intro w5 hb5
  have hz5 := hb5.size
  simp only [World.size_alloc] at hz5
  go_wp2_with fail
  refine (unless_any _ _ _).mono ?_
  rintro e6 w6 ⟨rfl, rfl⟩
  go_wp2_with fail
  refine (first2 _ _ _ _ _ _ (by rfl) (by simp)).mono ?_
  rintro e6 w6 ⟨rfl, rfl⟩
  rw [HE.out]
  go_wp2
  go_ret2
  exact ⟨rfl, by (repeat' (first | (with_reducible exact Below.refl _ _) | (with_reducible assumption) | (with_reducible refine Below.drewN ?_ _) | (with_reducible refine Below.alloc ?_ ?_ _) | (with_reducible refine Below.drew ?_) | (with_reducible refine Below.setCell ?_ ?_ _) | (with_reducible refine Below.step (by assumption) ?_ ?_) | (with_reducible exact And.left (by assumption)) | go_size))⟩
set_option maxHeartbeats 2000000 in
set_option maxRecDepth 100000 in
theorem checkImpulse_main (l : List (Int × Int)) (a : Option Addr) (n c : Nat) (w : World) (hl : PairsR w a n l) (h2 : 2 ≤ n) (h12 : n ≤ 12) :
    Calls Try.prog 50 #[.agg #[.slice a n c]] w fun e' w' => e' = .returned (.tuple #[.int .i64 (impScan l n 0).1, .int .i64 (impScan l n 0).2]) ∧ Below w.heap.size w w' := by
  obtain ⟨b0, o0, rfl, hb0, hc0⟩ := hl.addr (by omega)
  have HC := Lib.hid hc0
  clear hl hc0
  have i0 : (2 : Int) ≤ (n : Int) := by omega
  have i1 : (n : Int) ≤ 12 := by omega
  go_enter Try.func50, Try.ntmps50
  go_wp2_with fail
  refine later_of_eq 9 (by kernel_rfl) (by kernel_rfl) ?_; simp only [List.take_succ_cons, List.take_zero, List.drop_succ_cons, List.drop_zero]; repeat go_big_quiet_step (exact calls_later_same (unless_any _ _ _))
  refine wpQuiet_nil ?_; intro w5 hb5
  have hz5 := hb5.size
  simp only [World.size_alloc] at hz5
  have q0 : w5.cell? ⟨w.heap.size, 0, none⟩ = some (.slice (some ⟨b0, o0, none⟩) n c) := by { rw [cellB hb5 _ _ (by first | (simp; done) | (simp; omega) | omega)]; all_goals (first | assumption | go_simp) }; have l0 : w.heap.size < w5.heap.size := by { omega }
  have HB5 := Lib.hid (show Below w.heap.size w w5 by (repeat' (first | (with_reducible exact Below.refl _ _) | (with_reducible assumption) | (with_reducible refine Below.drewN ?_ _) | (with_reducible refine Below.alloc ?_ ?_ _) | (with_reducible refine Below.drew ?_) | (with_reducible refine Below.setCell ?_ ?_ _) | (with_reducible refine Below.step (by assumption) ?_ ?_) | (with_reducible exact And.left (by assumption)) | go_size)))
  clear hb5
  go_wp2_with fail
  refine (unless_any _ _ _).mono ?_
  rintro e6 w6 ⟨rfl, rfl⟩
  go_wp2_with fail
  refine (first2 _ _ _ _ _ _ (by rfl) (by simp)).mono ?_
  rintro e6 w6 ⟨rfl, rfl⟩
  rw [show firstErr [unl true 10, unl true 8] = 0 from rfl]
  generalize hW : (w5.alloc (Obj.cells #[Value.int IntKind.i64 (unl true 10), Value.int IntKind.i64 (unl true 8)] 31)) = w6
  have hb6 : Below w5.heap.size w5 w6 := by rw [← hW]; (repeat' (first | (with_reducible exact Below.refl _ _) | (with_reducible assumption) | (with_reducible refine Below.drewN ?_ _) | (with_reducible refine Below.alloc ?_ ?_ _) | (with_reducible refine Below.drew ?_) | (with_reducible refine Below.setCell ?_ ?_ _) | (with_reducible refine Below.step (by assumption) ?_ ?_) | (with_reducible exact And.left (by assumption)) | go_size))
  clear hW
  have hz6 := hb6.size
  have q0' : w6.cell? ⟨w.heap.size, 0, none⟩ = some (.slice (some ⟨b0, o0, none⟩) n c) := by { rw [cellB hb6 _ _ (by first | (simp; done) | (simp; omega) | omega)]; all_goals (first | assumption | go_simp) }; have l0' : w.heap.size < w6.heap.size := by { omega }
  have HB6 := Lib.hid (HB5.out.trans (hb6.mono HB5.out.size))
  clear hb6 q0 l0 HB5
  go_wp2
  go_loopw [27] (fun i wr => ∃ k : Nat, i = .int .i64 k ∧ k ≤ n ∧ Hid (impScan l (n - k) k = impScan l n 0) ∧ Hid (Below w6.heap.size w6 wr)) (fun i _ => n - (intOf i).toNat)
  case atStart => exact ⟨0, rfl, Nat.zero_le _, rfl, Lib.hid (Below.refl _ _)⟩
  case round =>
    obtain ⟨k, rfl, hk, hF, hB⟩ := hrel
    rcases Nat.lt_or_ge k n with hlt | hge
    · have hxy := HC.out k hlt
      have hbr := hB.out
      have hzr := hbr.size
      have hbw := HB6.out.trans (hbr.mono HB6.out.size)
      rw [← cellB hbw _ _ hb0, ← cellB hbw _ _ hb0] at hxy
      obtain ⟨x, hx⟩ : ∃ x, x = (gp l k).1 := ⟨_, rfl⟩
      obtain ⟨y, hy⟩ : ∃ y, y = (gp l k).2 := ⟨_, rfl⟩
      rw [← hx, ← hy] at hxy
      have cx := hxy.1
      have cy := hxy.2
      obtain ⟨m, hm⟩ : ∃ m, n - k = m + 1 := ⟨n - k - 1, by omega⟩
      have hF' := hF.out
      rw [hm, impScan] at hF'
      obtain ⟨E, hE⟩ : ∃ E, E = ptErr l k := ⟨_, rfl⟩
      rw [← hE] at hF'
      obtain ⟨g1, hg1⟩ : ∃ g1, g1 = wi x 0 1000000 := ⟨_, rfl⟩
      obtain ⟨g2, hg2⟩ : ∃ g2, g2 = wi y (-1000000) 1000000 := ⟨_, rfl⟩
      have hE2 : E = firstErr [unl (g1 && g2) 2, unl (ptLater l k) 9] := by rw [hE, hg1, hg2, hx, hy]; rfl
      have HG1 := Lib.hid hg1
      have HG2 := Lib.hid hg2
      have HM := Lib.hid hm
      have i2 : (0 : Int) ≤ (k : Int) := by omega
      have i3 : (k : Int) < (n : Int) := by omega
      have q0 : wr.cell? ⟨w.heap.size, 0, none⟩ = some (.slice (some ⟨b0, o0, none⟩) n c) := by { rw [cellB hbr _ _ (by first | (simp; done) | (simp; omega) | omega)]; all_goals (first | assumption | go_simp) }; have l0 : w.heap.size < wr.heap.size := by { omega }
      have HX := Lib.hid hx
      clear hxy hy hm hE hg1 hg2 hbr
      rcases k with _ | j
      · have HE := Lib.hid (show firstErr [unl (g1 && g2) 2, unl true 9] = E by rw [hE2]; rfl)
        have HF := Lib.hid hF'
        clear hF' hE2 hF hx hbw
        simp only [Nat.zero_mul, Nat.add_zero] at cx cy
        go_wp2_with fail
        refine (within_any _ _ _ _).mono ?_
        rintro e6 w8 ⟨rfl, rfl⟩
        rw [← HG1.out]
        cases g1
        · rw [Bool.false_and] at HE
          go_wp2_with fail
          refine later_of_eq 15 (by kernel_rfl) (by kernel_rfl) ?_; simp only [List.take_succ_cons, List.take_zero, List.drop_succ_cons, List.drop_zero]; repeat go_big_quiet_step (exact calls_later_same (unless_any _ _ _))
          refine wpQuiet_nil ?_; intro w8 hb8
          have hz8 := hb8.size
          simp only [World.size_alloc] at hz8
          have hb9 := Below.trans (show Below w6.heap.size w6 _ from Below.alloc hB.out hzr _) (hb8.mono (by simp; omega))
          have HB9 := Lib.hid hb9
          clear hb8 hb9
          go_wp2_with fail
          refine (unless_any _ _ _).mono ?_
          rintro e6 w9 ⟨rfl, rfl⟩
          go_wp2_with fail
          refine (first2 _ _ _ _ _ _ (by rfl) (by simp)).mono ?_
          rintro e6 w9 ⟨rfl, rfl⟩
          rw [HE.out]
          generalize hW : w8.alloc _ = w9
          have hb9 : Below w8.heap.size w8 w9 := by rw [← hW]; (repeat' (first | (with_reducible exact Below.refl _ _) | (with_reducible assumption) | (with_reducible refine Below.drewN ?_ _) | (with_reducible refine Below.alloc ?_ ?_ _) | (with_reducible refine Below.drew ?_) | (with_reducible refine Below.setCell ?_ ?_ _) | (with_reducible refine Below.step (by assumption) ?_ ?_) | (with_reducible exact And.left (by assumption)) | go_size))
          have HB10 := Lib.hid (HB9.out.trans (hb9.mono HB9.out.size))
          clear hW hb9 HB9 HE
          by_cases hE0 : E = 0
          · subst hE0
            rw [if_pos rfl] at HF
            go_wp2
            go_roundw
            case rel => exact ⟨0 + 1, by go_num, by omega, Lib.hid (by rw [← HF.out]; congr 1; have := HM.out; omega), HB10⟩
            case measure => simp [intOf]; omega
          · rw [if_neg hE0] at HF
            have hE1 : (E != 0) = true := by simpa using hE0
            clear hE0
            go_wp2
            go_ret2
            refine ⟨?_, HB6.out.trans (HB10.out.mono HB6.out.size)⟩
            rw [← HF.out]
            rfl
        · go_wp2_with fail
          refine (isSized_any _ _ _ (by omega) (by omega)).mono ?_
          rintro e6 w8 ⟨rfl, rfl⟩
          rw [← HG2.out]
          rw [Bool.true_and] at HE
          go_wp2_with fail
          refine later_of_eq 15 (by kernel_rfl) (by kernel_rfl) ?_; simp only [List.take_succ_cons, List.take_zero, List.drop_succ_cons, List.drop_zero]; repeat go_big_quiet_step (exact calls_later_same (unless_any _ _ _))
          refine wpQuiet_nil ?_; intro w8 hb8
          have hz8 := hb8.size
          simp only [World.size_alloc] at hz8
          have hb9 := Below.trans (show Below w6.heap.size w6 _ from Below.alloc hB.out hzr _) (hb8.mono (by simp; omega))
          have HB9 := Lib.hid hb9
          clear hb8 hb9
          go_wp2_with fail
          refine (unless_any _ _ _).mono ?_
          rintro e6 w9 ⟨rfl, rfl⟩
          go_wp2_with fail
          refine (first2 _ _ _ _ _ _ (by rfl) (by simp)).mono ?_
          rintro e6 w9 ⟨rfl, rfl⟩
          rw [HE.out]
          generalize hW : w8.alloc _ = w9
          have hb9 : Below w8.heap.size w8 w9 := by rw [← hW]; (repeat' (first | (with_reducible exact Below.refl _ _) | (with_reducible assumption) | (with_reducible refine Below.drewN ?_ _) | (with_reducible refine Below.alloc ?_ ?_ _) | (with_reducible refine Below.drew ?_) | (with_reducible refine Below.setCell ?_ ?_ _) | (with_reducible refine Below.step (by assumption) ?_ ?_) | (with_reducible exact And.left (by assumption)) | go_size))
          have HB10 := Lib.hid (HB9.out.trans (hb9.mono HB9.out.size))
          clear hW hb9 HB9 HE
          by_cases hE0 : E = 0
          · subst hE0
            rw [if_pos rfl] at HF
            go_wp2
            go_roundw
            case rel => exact ⟨0 + 1, by go_num, by omega, Lib.hid (by rw [← HF.out]; congr 1; have := HM.out; omega), HB10⟩
            case measure => simp [intOf]; omega
          · rw [if_neg hE0] at HF
            have hE1 : (E != 0) = true := by simpa using hE0
            clear hE0
            go_wp2
            go_ret2
            refine ⟨?_, HB6.out.trans (HB10.out.mono HB6.out.size)⟩
            rw [← HF.out]
            rfl
      · have hxy := HC.out j (by omega)
        rw [← cellB hbw _ _ hb0, ← cellB hbw _ _ hb0] at hxy
        have cp := hxy.1
        obtain ⟨z, hz⟩ : ∃ z, z = (gp l j).1 := ⟨_, rfl⟩
        rw [← hz] at cp
        have hgt : ptLater l (j + 1) = decide (x > z) := by rw [hx, hz]; simp [ptLater]
        rw [hgt] at hE2
        have HE := Lib.hid hE2.symm
        have HF := Lib.hid hF'
        clear hF' hE2 hF hx hbw hxy hz hgt
        have hbr0 : b0 < wr.heap.size := by omega
        have hmx : max ((j : Int) + 1) 1 = (j : Int) + 1 := by omega
        have hj0 : ((j : Int) + 1 == 0) = false := by simp; omega
        go_wp2_with fail
        refine (within_any _ _ _ _).mono ?_
        rintro e6 w8 ⟨rfl, rfl⟩
        rw [← HG1.out]
        cases g1
        · rw [Bool.false_and] at HE
          go_wp2_with fail
          refine later_of_eq 15 (by kernel_rfl) (by kernel_rfl) ?_; simp only [List.take_succ_cons, List.take_zero, List.drop_succ_cons, List.drop_zero]; repeat go_big_quiet_step (exact calls_later_same (unless_any _ _ _))
          refine wpQuiet_nil ?_; intro w8 hb8
          have hz8 := hb8.size
          simp only [World.size_alloc] at hz8
          have hb9 := Below.trans (show Below w6.heap.size w6 _ from Below.alloc hB.out hzr _) (hb8.mono (by simp; omega))
          have HB9 := Lib.hid hb9
          clear hb8 hb9
          go_wp2_with fail
          refine (unless_any _ _ _).mono ?_
          rintro e6 w9 ⟨rfl, rfl⟩
          go_wp2_with fail
          refine (first2 _ _ _ _ _ _ (by rfl) (by simp)).mono ?_
          rintro e6 w9 ⟨rfl, rfl⟩
          rw [HE.out]
          generalize hW : w8.alloc _ = w9
          have hb9 : Below w8.heap.size w8 w9 := by rw [← hW]; (repeat' (first | (with_reducible exact Below.refl _ _) | (with_reducible assumption) | (with_reducible refine Below.drewN ?_ _) | (with_reducible refine Below.alloc ?_ ?_ _) | (with_reducible refine Below.drew ?_) | (with_reducible refine Below.setCell ?_ ?_ _) | (with_reducible refine Below.step (by assumption) ?_ ?_) | (with_reducible exact And.left (by assumption)) | go_size))
          have HB10 := Lib.hid (HB9.out.trans (hb9.mono HB9.out.size))
          clear hW hb9 HB9 HE
          by_cases hE0 : E = 0
          · subst hE0
            rw [if_pos rfl] at HF
            go_wp2
            go_roundw
            case rel => exact ⟨j + 1 + 1, by go_num, by omega, Lib.hid (by rw [← HF.out]; congr 1; have := HM.out; omega), HB10⟩
            case measure => simp [intOf]; omega
          · rw [if_neg hE0] at HF
            have hE1 : (E != 0) = true := by simpa using hE0
            clear hE0
            go_wp2
            go_ret2
            refine ⟨?_, HB6.out.trans (HB10.out.mono HB6.out.size)⟩
            rw [← HF.out]
            rfl
        · go_wp2_with fail
          refine (isSized_any _ _ _ (by omega) (by omega)).mono ?_
          rintro e6 w8 ⟨rfl, rfl⟩
          rw [← HG2.out]
          rw [Bool.true_and] at HE
          go_wp2_with fail
          refine later_of_eq 15 (by kernel_rfl) (by kernel_rfl) ?_; simp only [List.take_succ_cons, List.take_zero, List.drop_succ_cons, List.drop_zero]; repeat go_big_quiet_step (exact calls_later_same (unless_any _ _ _))
          refine wpQuiet_nil ?_; intro w8 hb8
          have hz8 := hb8.size
          simp only [World.size_alloc] at hz8
          have hb9 := Below.trans (show Below w6.heap.size w6 _ from Below.alloc hB.out hzr _) (hb8.mono (by simp; omega))
          have HB9 := Lib.hid hb9
          clear hb8 hb9
          go_wp2_with fail
          refine (unless_any _ _ _).mono ?_
          rintro e6 w9 ⟨rfl, rfl⟩
          go_wp2_with fail
          refine (first2 _ _ _ _ _ _ (by rfl) (by simp)).mono ?_
          rintro e6 w9 ⟨rfl, rfl⟩
          rw [HE.out]
          generalize hW : w8.alloc _ = w9
          have hb9 : Below w8.heap.size w8 w9 := by rw [← hW]; (repeat' (first | (with_reducible exact Below.refl _ _) | (with_reducible assumption) | (with_reducible refine Below.drewN ?_ _) | (with_reducible refine Below.alloc ?_ ?_ _) | (with_reducible refine Below.drew ?_) | (with_reducible refine Below.setCell ?_ ?_ _) | (with_reducible refine Below.step (by assumption) ?_ ?_) | (with_reducible exact And.left (by assumption)) | go_size))
          have HB10 := Lib.hid (HB9.out.trans (hb9.mono HB9.out.size))
          clear hW hb9 HB9 HE
          by_cases hE0 : E = 0
          · subst hE0
            rw [if_pos rfl] at HF
            go_wp2
            go_roundw
            case rel => exact ⟨j + 1 + 1, by go_num, by omega, Lib.hid (by rw [← HF.out]; congr 1; have := HM.out; omega), HB10⟩
            case measure => simp [intOf]; omega
          · rw [if_neg hE0] at HF
            have hE1 : (E != 0) = true := by simpa using hE0
            clear hE0
            go_wp2
            go_ret2
            refine ⟨?_, HB6.out.trans (HB10.out.mono HB6.out.size)⟩
            rw [← HF.out]
            rfl
    · obtain rfl : k = n := by omega
      have HR := Lib.hid (HB6.out.trans (hB.out.mono HB6.out.size))
      have HN := Lib.hid (show impScan l k 0 = (0, 0) by rw [← hF.out, Nat.sub_self]; rfl)
      go_wp2
      go_ret2
      refine ⟨?_, HR.out⟩
      rw [HN.out]
      rfl
end Go.Proofs.Ytiellefbndlkkaa
