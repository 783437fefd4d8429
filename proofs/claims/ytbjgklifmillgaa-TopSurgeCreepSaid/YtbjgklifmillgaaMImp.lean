import Derived.Test.YtbjgklifmillgaaFrac
import Derived.Test.YtbjgklifmillgaaMRf
/- Which impulses are valid, and the value at a time. -/
namespace Go.Proofs.Ytbjgklifmillgaa
open Go.RowKit
set_option linter.unusedVariables false

/-- A point of an impulse. -/
abbrev gp (l : List (Int × Int)) (i : Nat) : Int × Int := l.getD i (0, 0)
def ptOk (l : List (Int × Int)) (i : Nat) : Bool := wi (gp l i).1 0 1000000 && wi (gp l i).2 (-1000000) 1000000
def ptLater (l : List (Int × Int)) (i : Nat) : Bool := decide (i = 0) || decide ((gp l i).1 > (gp l (i - 1)).1)
def ptErr (l : List (Int × Int)) (i : Nat) : Int := firstErr [unl (ptOk l i) 2, unl (ptLater l i) 9]
def impScan (l : List (Int × Int)) : Nat → Nat → Int × Int
  | 0, _ => (0, 0)
  | m + 1, i => if ptErr l i = 0 then impScan l m (i + 1) else ((i : Int), ptErr l i)
/-- The index and the error of an impulse. -/
def impErr (l : List (Int × Int)) : Int × Int :=
  if 2 ≤ l.length then (if l.length ≤ 12 then impScan l l.length 0 else (0, 8)) else (0, 10)

theorem unl_and (b1 b2 : Bool) (e1 e2 : Int) (h1 : e1 ≠ 0) (h2 : e2 ≠ 0) : (firstErr [unl b1 e1, unl b2 e2] = 0) ↔ (b1 = true ∧ b2 = true) := by
  cases b1 <;> cases b2 <;> simp [firstErr, unl, h1, h2]

set_option maxRecDepth 100000 in
theorem checkImpulse_short (a : Option Addr) (n c : Nat) (w : World) (E : Int) (hn : n ≤ 9223372036854775807) (h : (n < 2 ∧ E = 10) ∨ (12 < n ∧ E = 8)) :
    Calls Try.prog 113 #[.agg #[.slice a n c]] w fun e' w' => e' = .returned (.tuple #[.int .i64 0, .int .i64 E]) ∧ Below w.heap.size w w' := by
  have HE := Lib.hid (show firstErr [unl (decide (2 ≤ (n : Int))) 10, unl (decide ((n : Int) ≤ 12)) 8] = E by
    rcases h with ⟨h, rfl⟩ | ⟨h, rfl⟩
    · rw [show decide (2 ≤ (n : Int)) = false by simp; omega]; rfl
    · rw [show decide (2 ≤ (n : Int)) = true by simp; omega, show decide ((n : Int) ≤ 12) = false by simp; omega]; rfl)
  have h1 : (E != 0) = true := by rcases h with ⟨_, rfl⟩ | ⟨_, rfl⟩ <;> rfl
  clear h
  go_enter Try.func113, Try.ntmps113
  go_wp2_with fail
  refine later_of_eq 9 (by kernel_rfl) (by kernel_rfl) ?_; simp only [List.take_succ_cons, List.take_zero, List.drop_succ_cons, List.drop_zero]; repeat go_big_quiet_step (exact calls_later_same (unless_any _ _ _))
  refine wpQuiet_nil ?_; intro w5 hb5
  have hz5 := hb5.size
  simp only [World.size_alloc] at hz5
  go_wp2_with fail
  refine (unless_any _ _ _).mono ?_
  rintro e6 w6 ⟨rfl, rfl⟩
  go_wp2_with fail
  refine (first2 _ _ _ _ _ _ (by rfl) (by simp)).mono ?_
  rintro e6 w6 ⟨rfl, rfl⟩
  rw [HE.out]
  go_wp2
  go_ret2
  exact ⟨rfl, by (repeat' (first | (with_reducible exact Below.refl _ _) | (with_reducible assumption) | (with_reducible refine Below.drewN ?_ _) | (with_reducible refine Below.alloc ?_ ?_ _) | (with_reducible refine Below.drew ?_) | (with_reducible refine Below.setCell ?_ ?_ _) | (with_reducible refine Below.step (by assumption) ?_ ?_) | (with_reducible exact And.left (by assumption)) | go_size))⟩
set_option maxHeartbeats 2000000 in
set_option maxRecDepth 100000 in
theorem checkImpulse_main (l : List (Int × Int)) (a : Option Addr) (n c : Nat) (w : World) (hl : PairsR w a n l) (h2 : 2 ≤ n) (h12 : n ≤ 12) :
    Calls Try.prog 113 #[.agg #[.slice a n c]] w fun e' w' => e' = .returned (.tuple #[.int .i64 (impScan l n 0).1, .int .i64 (impScan l n 0).2]) ∧ Below w.heap.size w w' := by
  obtain ⟨b0, o0, rfl, hb0, hc0⟩ := hl.addr (by omega)
  have HC := Lib.hid hc0
  clear hl hc0
  have i0 : (2 : Int) ≤ (n : Int) := by omega
  have i1 : (n : Int) ≤ 12 := by omega
  go_enter Try.func113, Try.ntmps113
  go_wp2_with fail
  refine later_of_eq 9 (by kernel_rfl) (by kernel_rfl) ?_; simp only [List.take_succ_cons, List.take_zero, List.drop_succ_cons, List.drop_zero]; repeat go_big_quiet_step (exact calls_later_same (unless_any _ _ _))
  refine wpQuiet_nil ?_; intro w5 hb5
  have hz5 := hb5.size
  simp only [World.size_alloc] at hz5
  have q0 : w5.cell? ⟨w.heap.size, 0, none⟩ = some (.slice (some ⟨b0, o0, none⟩) n c) := by { rw [cellB hb5 _ _ (by first | (simp; done) | (simp; omega) | omega)]; all_goals (first | assumption | go_simp) }; have l0 : w.heap.size < w5.heap.size := by { omega }
  have HB5 := Lib.hid (show Below w.heap.size w w5 by (repeat' (first | (with_reducible exact Below.refl _ _) | (with_reducible assumption) | (with_reducible refine Below.drewN ?_ _) | (with_reducible refine Below.alloc ?_ ?_ _) | (with_reducible refine Below.drew ?_) | (with_reducible refine Below.setCell ?_ ?_ _) | (with_reducible refine Below.step (by assumption) ?_ ?_) | (with_reducible exact And.left (by assumption)) | go_size)))
  clear hb5
  go_wp2_with fail
  refine (unless_any _ _ _).mono ?_
  rintro e6 w6 ⟨rfl, rfl⟩
  go_wp2_with fail
  refine (first2 _ _ _ _ _ _ (by rfl) (by simp)).mono ?_
  rintro e6 w6 ⟨rfl, rfl⟩
  rw [show firstErr [unl true 10, unl true 8] = 0 from rfl]
  generalize hW : (w5.alloc (Obj.cells #[Value.int IntKind.i64 (unl true 10), Value.int IntKind.i64 (unl true 8)] 34)) = w6
  have hb6 : Below w5.heap.size w5 w6 := by rw [← hW]; (repeat' (first | (with_reducible exact Below.refl _ _) | (with_reducible assumption) | (with_reducible refine Below.drewN ?_ _) | (with_reducible refine Below.alloc ?_ ?_ _) | (with_reducible refine Below.drew ?_) | (with_reducible refine Below.setCell ?_ ?_ _) | (with_reducible refine Below.step (by assumption) ?_ ?_) | (with_reducible exact And.left (by assumption)) | go_size))
  clear hW
  have hz6 := hb6.size
  have q0' : w6.cell? ⟨w.heap.size, 0, none⟩ = some (.slice (some ⟨b0, o0, none⟩) n c) := by { rw [cellB hb6 _ _ (by first | (simp; done) | (simp; omega) | omega)]; all_goals (first | assumption | go_simp) }; have l0' : w.heap.size < w6.heap.size := by { omega }
  have HB6 := Lib.hid (HB5.out.trans (hb6.mono HB5.out.size))
  clear hb6 q0 l0 HB5
  go_wp2
  go_loopw [27] (fun i wr => ∃ k : Nat, i = .int .i64 k ∧ k ≤ n ∧ Hid (impScan l (n - k) k = impScan l n 0) ∧ Hid (Below w6.heap.size w6 wr)) (fun i _ => n - (intOf i).toNat)
  case atStart => exact ⟨0, rfl, Nat.zero_le _, rfl, Lib.hid (Below.refl _ _)⟩
  case round =>
    obtain ⟨k, rfl, hk, hF, hB⟩ := hrel
    rcases Nat.lt_or_ge k n with hlt | hge
    · have hxy := HC.out k hlt
      have hbr := hB.out
      have hzr := hbr.size
      have hbw := HB6.out.trans (hbr.mono HB6.out.size)
      rw [← cellB hbw _ _ hb0, ← cellB hbw _ _ hb0] at hxy
      obtain ⟨x, hx⟩ : ∃ x, x = (gp l k).1 := ⟨_, rfl⟩
      obtain ⟨y, hy⟩ : ∃ y, y = (gp l k).2 := ⟨_, rfl⟩
      rw [← hx, ← hy] at hxy
      have cx := hxy.1
      have cy := hxy.2
      obtain ⟨m, hm⟩ : ∃ m, n - k = m + 1 := ⟨n - k - 1, by omega⟩
      have hF' := hF.out
      rw [hm, impScan] at hF'
      obtain ⟨E, hE⟩ : ∃ E, E = ptErr l k := ⟨_, rfl⟩
      rw [← hE] at hF'
      obtain ⟨g1, hg1⟩ : ∃ g1, g1 = wi x 0 1000000 := ⟨_, rfl⟩
      obtain ⟨g2, hg2⟩ : ∃ g2, g2 = wi y (-1000000) 1000000 := ⟨_, rfl⟩
      have hE2 : E = firstErr [unl (g1 && g2) 2, unl (ptLater l k) 9] := by rw [hE, hg1, hg2, hx, hy]; rfl
      have HG1 := Lib.hid hg1
      have HG2 := Lib.hid hg2
      have HM := Lib.hid hm
      have i2 : (0 : Int) ≤ (k : Int) := by omega
      have i3 : (k : Int) < (n : Int) := by omega
      have q0 : wr.cell? ⟨w.heap.size, 0, none⟩ = some (.slice (some ⟨b0, o0, none⟩) n c) := by { rw [cellB hbr _ _ (by first | (simp; done) | (simp; omega) | omega)]; all_goals (first | assumption | go_simp) }; have l0 : w.heap.size < wr.heap.size := by { omega }
      have HX := Lib.hid hx
      clear hxy hy hm hE hg1 hg2 hbr
      rcases k with _ | j
      · have HE := Lib.hid (show firstErr [unl (g1 && g2) 2, unl true 9] = E by rw [hE2]; rfl)
        have HF := Lib.hid hF'
        clear hF' hE2 hF hx hbw
        simp only [Nat.zero_mul, Nat.add_zero] at cx cy
        go_wp2_with fail
        refine (within_any _ _ _ _).mono ?_
        rintro e6 w8 ⟨rfl, rfl⟩
        rw [← HG1.out]
        cases g1
        · rw [Bool.false_and] at HE
          go_wp2_with fail
          refine later_of_eq 15 (by kernel_rfl) (by kernel_rfl) ?_; simp only [List.take_succ_cons, List.take_zero, List.drop_succ_cons, List.drop_zero]; repeat go_big_quiet_step (exact calls_later_same (unless_any _ _ _))
          refine wpQuiet_nil ?_; intro w8 hb8
          have hz8 := hb8.size
          simp only [World.size_alloc] at hz8
          have hb9 := Below.trans (show Below w6.heap.size w6 _ from Below.alloc hB.out hzr _) (hb8.mono (by simp; omega))
          have HB9 := Lib.hid hb9
          clear hb8 hb9
          go_wp2_with fail
          refine (unless_any _ _ _).mono ?_
          rintro e6 w9 ⟨rfl, rfl⟩
          go_wp2_with fail
          refine (first2 _ _ _ _ _ _ (by rfl) (by simp)).mono ?_
          rintro e6 w9 ⟨rfl, rfl⟩
          rw [HE.out]
          generalize hW : w8.alloc _ = w9
          have hb9 : Below w8.heap.size w8 w9 := by rw [← hW]; (repeat' (first | (with_reducible exact Below.refl _ _) | (with_reducible assumption) | (with_reducible refine Below.drewN ?_ _) | (with_reducible refine Below.alloc ?_ ?_ _) | (with_reducible refine Below.drew ?_) | (with_reducible refine Below.setCell ?_ ?_ _) | (with_reducible refine Below.step (by assumption) ?_ ?_) | (with_reducible exact And.left (by assumption)) | go_size))
          have HB10 := Lib.hid (HB9.out.trans (hb9.mono HB9.out.size))
          clear hW hb9 HB9 HE
          by_cases hE0 : E = 0
          · subst hE0
            rw [if_pos rfl] at HF
            go_wp2
            go_roundw
            case rel => exact ⟨0 + 1, by go_num, by omega, Lib.hid (by rw [← HF.out]; congr 1; have := HM.out; omega), HB10⟩
            case measure => simp [intOf]; omega
          · rw [if_neg hE0] at HF
            have hE1 : (E != 0) = true := by simpa using hE0
            clear hE0
            go_wp2
            go_ret2
            refine ⟨?_, HB6.out.trans (HB10.out.mono HB6.out.size)⟩
            rw [← HF.out]
            rfl
        · go_wp2_with fail
          refine (isSized_any _ _ _ (by omega) (by omega)).mono ?_
          rintro e6 w8 ⟨rfl, rfl⟩
          rw [← HG2.out]
          rw [Bool.true_and] at HE
          go_wp2_with fail
          refine later_of_eq 15 (by kernel_rfl) (by kernel_rfl) ?_; simp only [List.take_succ_cons, List.take_zero, List.drop_succ_cons, List.drop_zero]; repeat go_big_quiet_step (exact calls_later_same (unless_any _ _ _))
          refine wpQuiet_nil ?_; intro w8 hb8
          have hz8 := hb8.size
          simp only [World.size_alloc] at hz8
          have hb9 := Below.trans (show Below w6.heap.size w6 _ from Below.alloc hB.out hzr _) (hb8.mono (by simp; omega))
          have HB9 := Lib.hid hb9
          clear hb8 hb9
          go_wp2_with fail
          refine (unless_any _ _ _).mono ?_
          rintro e6 w9 ⟨rfl, rfl⟩
          go_wp2_with fail
          refine (first2 _ _ _ _ _ _ (by rfl) (by simp)).mono ?_
          rintro e6 w9 ⟨rfl, rfl⟩
          rw [HE.out]
          generalize hW : w8.alloc _ = w9
          have hb9 : Below w8.heap.size w8 w9 := by rw [← hW]; (repeat' (first | (with_reducible exact Below.refl _ _) | (with_reducible assumption) | (with_reducible refine Below.drewN ?_ _) | (with_reducible refine Below.alloc ?_ ?_ _) | (with_reducible refine Below.drew ?_) | (with_reducible refine Below.setCell ?_ ?_ _) | (with_reducible refine Below.step (by assumption) ?_ ?_) | (with_reducible exact And.left (by assumption)) | go_size))
          have HB10 := Lib.hid (HB9.out.trans (hb9.mono HB9.out.size))
          clear hW hb9 HB9 HE
          by_cases hE0 : E = 0
          · subst hE0
            rw [if_pos rfl] at HF
            go_wp2
            go_roundw
            case rel => exact ⟨0 + 1, by go_num, by omega, Lib.hid (by rw [← HF.out]; congr 1; have := HM.out; omega), HB10⟩
            case measure => simp [intOf]; omega
          · rw [if_neg hE0] at HF
            have hE1 : (E != 0) = true := by simpa using hE0
            clear hE0
            go_wp2
            go_ret2
            refine ⟨?_, HB6.out.trans (HB10.out.mono HB6.out.size)⟩
            rw [← HF.out]
            rfl
      · have hxy := HC.out j (by omega)
        rw [← cellB hbw _ _ hb0, ← cellB hbw _ _ hb0] at hxy
        have cp := hxy.1
        obtain ⟨z, hz⟩ : ∃ z, z = (gp l j).1 := ⟨_, rfl⟩
        rw [← hz] at cp
        have hgt : ptLater l (j + 1) = decide (x > z) := by rw [hx, hz]; simp [ptLater]
        rw [hgt] at hE2
        have HE := Lib.hid hE2.symm
        have HF := Lib.hid hF'
        clear hF' hE2 hF hx hbw hxy hz hgt
        have hbr0 : b0 < wr.heap.size := by omega
        have hmx : max ((j : Int) + 1) 1 = (j : Int) + 1 := by omega
        have hj0 : ((j : Int) + 1 == 0) = false := by simp; omega
        go_wp2_with fail
        refine (within_any _ _ _ _).mono ?_
        rintro e6 w8 ⟨rfl, rfl⟩
        rw [← HG1.out]
        cases g1
        · rw [Bool.false_and] at HE
          go_wp2_with fail
          refine later_of_eq 15 (by kernel_rfl) (by kernel_rfl) ?_; simp only [List.take_succ_cons, List.take_zero, List.drop_succ_cons, List.drop_zero]; repeat go_big_quiet_step (exact calls_later_same (unless_any _ _ _))
          refine wpQuiet_nil ?_; intro w8 hb8
          have hz8 := hb8.size
          simp only [World.size_alloc] at hz8
          have hb9 := Below.trans (show Below w6.heap.size w6 _ from Below.alloc hB.out hzr _) (hb8.mono (by simp; omega))
          have HB9 := Lib.hid hb9
          clear hb8 hb9
          go_wp2_with fail
          refine (unless_any _ _ _).mono ?_
          rintro e6 w9 ⟨rfl, rfl⟩
          go_wp2_with fail
          refine (first2 _ _ _ _ _ _ (by rfl) (by simp)).mono ?_
          rintro e6 w9 ⟨rfl, rfl⟩
          rw [HE.out]
          generalize hW : w8.alloc _ = w9
          have hb9 : Below w8.heap.size w8 w9 := by rw [← hW]; (repeat' (first | (with_reducible exact Below.refl _ _) | (with_reducible assumption) | (with_reducible refine Below.drewN ?_ _) | (with_reducible refine Below.alloc ?_ ?_ _) | (with_reducible refine Below.drew ?_) | (with_reducible refine Below.setCell ?_ ?_ _) | (with_reducible refine Below.step (by assumption) ?_ ?_) | (with_reducible exact And.left (by assumption)) | go_size))
          have HB10 := Lib.hid (HB9.out.trans (hb9.mono HB9.out.size))
          clear hW hb9 HB9 HE
          by_cases hE0 : E = 0
          · subst hE0
            rw [if_pos rfl] at HF
            go_wp2
            go_roundw
            case rel => exact ⟨j + 1 + 1, by go_num, by omega, Lib.hid (by rw [← HF.out]; congr 1; have := HM.out; omega), HB10⟩
            case measure => simp [intOf]; omega
          · rw [if_neg hE0] at HF
            have hE1 : (E != 0) = true := by simpa using hE0
            clear hE0
            go_wp2
            go_ret2
            refine ⟨?_, HB6.out.trans (HB10.out.mono HB6.out.size)⟩
            rw [← HF.out]
            rfl
        · go_wp2_with fail
          refine (isSized_any _ _ _ (by omega) (by omega)).mono ?_
          rintro e6 w8 ⟨rfl, rfl⟩
          rw [← HG2.out]
          rw [Bool.true_and] at HE
          go_wp2_with fail
          refine later_of_eq 15 (by kernel_rfl) (by kernel_rfl) ?_; simp only [List.take_succ_cons, List.take_zero, List.drop_succ_cons, List.drop_zero]; repeat go_big_quiet_step (exact calls_later_same (unless_any _ _ _))
          refine wpQuiet_nil ?_; intro w8 hb8
          have hz8 := hb8.size
          simp only [World.size_alloc] at hz8
          have hb9 := Below.trans (show Below w6.heap.size w6 _ from Below.alloc hB.out hzr _) (hb8.mono (by simp; omega))
          have HB9 := Lib.hid hb9
          clear hb8 hb9
          go_wp2_with fail
          refine (unless_any _ _ _).mono ?_
          rintro e6 w9 ⟨rfl, rfl⟩
          go_wp2_with fail
          refine (first2 _ _ _ _ _ _ (by rfl) (by simp)).mono ?_
          rintro e6 w9 ⟨rfl, rfl⟩
          rw [HE.out]
          generalize hW : w8.alloc _ = w9
          have hb9 : Below w8.heap.size w8 w9 := by rw [← hW]; (repeat' (first | (with_reducible exact Below.refl _ _) | (with_reducible assumption) | (with_reducible refine Below.drewN ?_ _) | (with_reducible refine Below.alloc ?_ ?_ _) | (with_reducible refine Below.drew ?_) | (with_reducible refine Below.setCell ?_ ?_ _) | (with_reducible refine Below.step (by assumption) ?_ ?_) | (with_reducible exact And.left (by assumption)) | go_size))
          have HB10 := Lib.hid (HB9.out.trans (hb9.mono HB9.out.size))
          clear hW hb9 HB9 HE
          by_cases hE0 : E = 0
          · subst hE0
            rw [if_pos rfl] at HF
            go_wp2
            go_roundw
            case rel => exact ⟨j + 1 + 1, by go_num, by omega, Lib.hid (by rw [← HF.out]; congr 1; have := HM.out; omega), HB10⟩
            case measure => simp [intOf]; omega
          · rw [if_neg hE0] at HF
            have hE1 : (E != 0) = true := by simpa using hE0
            clear hE0
            go_wp2
            go_ret2
            refine ⟨?_, HB6.out.trans (HB10.out.mono HB6.out.size)⟩
            rw [← HF.out]
            rfl
    · obtain rfl : k = n := by omega
      have HR := Lib.hid (HB6.out.trans (hB.out.mono HB6.out.size))
      have HN := Lib.hid (show impScan l k 0 = (0, 0) by rw [← hF.out, Nat.sub_self]; rfl)
      go_wp2
      go_ret2
      refine ⟨?_, HR.out⟩
      rw [HN.out]
      rfl
end Go.Proofs.Ytbjgklifmillgaa

/- The value of an impulse at a time. -/
namespace Go.Proofs.Ytbjgklifmillgaa
open Go.RowKit
set_option linter.unusedVariables false

theorem checkImpulse_any (l : List (Int × Int)) (a : Option Addr) (n c : Nat) (w : World) (hl : PairsR w a n l) :
    Calls Try.prog 113 #[.agg #[.slice a n c]] w fun e' w' => e' = .returned (.tuple #[.int .i64 (impErr l).1, .int .i64 (impErr l).2]) ∧ Below w.heap.size w w' := by
  have hlen := hl.len
  by_cases h2 : 2 ≤ n
  · by_cases h12 : n ≤ 12
    · have := checkImpulse_main l a n c w hl h2 h12
      rwa [show impScan l n 0 = impErr l by unfold impErr; rw [if_pos (by omega), if_pos (by omega), hlen]] at this
    · have := checkImpulse_short a n c w 8 hl.small (.inr ⟨by omega, rfl⟩)
      rwa [show impErr l = (0, 8) by unfold impErr; rw [if_pos (by omega), if_neg (by omega)]]
  · have := checkImpulse_short a n c w 10 hl.small (.inl ⟨by omega, rfl⟩)
    rwa [show impErr l = (0, 10) by unfold impErr; rw [if_neg (by omega)]]
set_option maxRecDepth 100000 in
theorem open_any (l : List (Int × Int)) (a : Option Addr) (n c : Nat) (w : World) (hl : PairsR w a n l) :
    Calls Try.prog 65 #[.agg #[.slice a n c]] w fun e' w' => e' = .returned (.tuple #[.agg #[.slice a n c], .int .i64 (impErr l).2]) ∧ Below w.heap.size w w' := by
  have HC := Lib.hid (fun (w' : World) (hb : Below w.heap.size w w') => checkImpulse_any l a n c w' (hl.below hb))
  clear hl
  generalize impErr l = E at HC
  obtain ⟨i, E⟩ := E
  go_enter Try.func65, Try.ntmps65
  go_wp2_with fail
  refine (HC.out _ (by (repeat' (first | (with_reducible exact Below.refl _ _) | (with_reducible assumption) | (with_reducible refine Below.drewN ?_ _) | (with_reducible refine Below.alloc ?_ ?_ _) | (with_reducible refine Below.drew ?_) | (with_reducible refine Below.setCell ?_ ?_ _) | (with_reducible refine Below.step (by assumption) ?_ ?_) | (with_reducible exact And.left (by assumption)) | go_size)))).mono ?_
  rintro e5 w5 ⟨rfl, hb5⟩
  have hz5 := hb5.size
  simp only [World.size_alloc] at hz5
  have q0 : w5.cell? ⟨w.heap.size, 0, none⟩ = some (.slice a n c) := by { rw [cellB hb5 _ _ (by first | (simp; done) | (simp; omega) | omega)]; all_goals (first | assumption | go_simp) }; have q1 : w5.cell? ⟨w.heap.size + 1, 0, none⟩ = some (.slice none 0 0) := by { rw [cellB hb5 _ _ (by first | (simp; done) | (simp; omega) | omega)]; all_goals (first | assumption | go_simp) }; have f1 : w5.frozen? ⟨w.heap.size + 1, 0, none⟩ = false := by { rw [frozenB hb5 _ _ (by first | (simp; done) | (simp; omega) | omega)]; all_goals (first | assumption | go_simp) }; have l0 : w.heap.size + 1 < w5.heap.size := by { omega }
  have HB5 := Lib.hid (show Below w.heap.size w w5 by (repeat' (first | (with_reducible exact Below.refl _ _) | (with_reducible assumption) | (with_reducible refine Below.drewN ?_ _) | (with_reducible refine Below.alloc ?_ ?_ _) | (with_reducible refine Below.drew ?_) | (with_reducible refine Below.setCell ?_ ?_ _) | (with_reducible refine Below.step (by assumption) ?_ ?_) | (with_reducible exact And.left (by assumption)) | go_size)))
  clear hb5 HC
  go_wp2
  refine bodyPost_ret (v := .tuple #[.agg #[.slice a n c], .int .i64 E]) (by simp [results, Try.results65, go_sem, q1]) rfl ⟨rfl, ?_⟩
  have := HB5.out
  (repeat' (first | (with_reducible exact Below.refl _ _) | (with_reducible assumption) | (with_reducible refine Below.drewN ?_ _) | (with_reducible refine Below.alloc ?_ ?_ _) | (with_reducible refine Below.drew ?_) | (with_reducible refine Below.setCell ?_ ?_ _) | (with_reducible refine Below.step (by assumption) ?_ ?_) | (with_reducible exact And.left (by assumption)) | go_size))
theorem value1_any (x y t : Int) (B : Nat) (w : World) (hB : B < w.heap.size) (hc : w.cell? ⟨B, 0, none⟩ = some (.int .i64 t)) : Calls Try.prog 115 #[.agg #[.int .i64 x, .int .i64 y], .pointer (some ⟨B, 0, none⟩)] w fun e w' => e = .returned (.bool (decide (t ≤ x))) ∧ Below w.heap.size w w' := by
  go_enter Try.func115, Try.ntmps115
  go_wp2
  go_ret
  exact ⟨rfl, by (repeat' (first | (with_reducible exact Below.refl _ _) | (with_reducible assumption) | (with_reducible refine Below.drewN ?_ _) | (with_reducible refine Below.alloc ?_ ?_ _) | (with_reducible refine Below.drew ?_) | (with_reducible refine Below.setCell ?_ ?_ _) | (with_reducible refine Below.step (by assumption) ?_ ?_) | (with_reducible exact And.left (by assumption)) | go_size))⟩
theorem cf_value1 (args : Array Value) (w : World) : (callFunc 115 args).run Try.prog w = .ok (.enter 115 args) w := by kernel_rfl
set_option maxRecDepth 100000 in
theorem indexPts_any (B : Nat) (t : Int) (l : List (Int × Int)) (a : Option Addr) (n c : Nat) (w : World) (hl : PairsR w a n l) (hB : B < w.heap.size) (hc : w.cell? ⟨B, 0, none⟩ = some (.int .i64 t)) :
    Calls Try.prog 114 #[.slice a n c, .func (.func 115) #[] #[.pointer (some ⟨B, 0, none⟩)]] w fun e' w' => e' = .returned (.int .i64 (idxFrom (fun p => decide (t ≤ p.1)) l 0)) ∧ Below w.heap.size w w' := by
  have HL := Lib.hid hl
  have HCT := Lib.hid hc
  have hn := hl.small
  clear hl hc
  go_enter Try.func114, Try.ntmps114
  go_wp2
  go_loopw [8] (fun i wr => ∃ k : Nat, i = .int .i64 k ∧ k ≤ n ∧ Hid (idxFrom (fun p => decide (t ≤ p.1)) (l.drop k) k = idxFrom (fun p => decide (t ≤ p.1)) l 0) ∧ Hid (Below w.heap.size w wr)) (fun i _ => n - (intOf i).toNat)
  case atStart => exact ⟨0, rfl, Nat.zero_le _, rfl, Lib.hid (Below.refl _ _)⟩
  case round =>
    obtain ⟨k, rfl, hk, hF, hB'⟩ := hrel
    by_cases hlt : k < n
    · obtain ⟨b, o, rfl, hb, hc⟩ := HL.out.addr (by omega)
      have hck := (hc k hlt).1
      have hck2 := (hc k hlt).2
      rw [← cellB hB'.out _ _ hb] at hck hck2
      clear hc
      have hF' := hF.out
      rw [drop_at l k (0, 0) (by rw [HL.out.len]; exact hlt), idxFrom] at hF'
      have HF := Lib.hid hF'; clear hF' hF
      obtain ⟨⟨x, y⟩, hx⟩ : ∃ x, x = l.getD k (0, 0) := ⟨_, rfl⟩
      rw [← hx] at hck hck2 HF
      clear hx
      have i0 : (0 : Int) ≤ (k : Int) := by omega
      have hz := hB'.out.size
      go_wp2_with fail
      refine (value1_any x y t B wr (by omega) (by rw [cellB hB'.out _ _ hB]; exact HCT.out)).mono ?_
      rintro e w' ⟨rfl, hb'⟩
      have HB := Lib.hid (hB'.out.trans (hb'.mono hB'.out.size))
      clear hb' hB'
      by_cases hx : t ≤ x
      · rw [if_pos (by simpa using hx)] at HF
        have hx' : decide (t ≤ x) = true := by simpa using hx
        rw [hx']
        go_wp2
        go_ret
        exact ⟨ret_int HF.out, HB.out⟩
      · rw [if_neg (by simpa using hx)] at HF
        have hx' : decide (t ≤ x) = false := by simpa using hx
        rw [hx']
        clear hx hx'
        go_wp2
        go_roundw
        case rel => exact ⟨k + 1, by go_num, by omega, HF, HB⟩
        case measure => simp [intOf]; omega
    · go_wp2
      go_ret
      exact ⟨ret_int (by rw [← hF.out, drop_end l k (by rw [HL.out.len]; omega)]; rfl), hB'.out⟩

theorem idxFrom_lt {α : Type} (p : α → Bool) : ∀ (l : List α) (k : Nat), idxFrom p l k = -1 ∨ ∃ m : Nat, idxFrom p l k = ((k + m : Nat) : Int) ∧ m < l.length
  | [], k => .inl rfl
  | x :: r, k => by
    simp only [idxFrom]
    by_cases h : p x = true
    · exact .inr ⟨0, by rw [if_pos h]; rfl, by simp⟩
    · rw [if_neg h]
      rcases idxFrom_lt p r (k + 1) with h1 | ⟨m, h1, h2⟩
      · exact .inl h1
      · exact .inr ⟨m + 1, by rw [h1]; congr 1; omega, by simp; omega⟩
/-- The value of an impulse at a time: a numerator and a denominator. -/
def idxT (l : List (Int × Int)) (t : Int) : Int := idxFrom (fun p => decide (t ≤ p.1)) l 0
def valAt (l : List (Int × Int)) (t : Int) : Nat → Int × Int
  | 0 => if (gp l 0).1 = t then ((gp l 0).2, 1) else (0, 1)
  | j + 1 => if (gp l (j + 1)).1 = t then ((gp l (j + 1)).2, 1) else ((gp l j).2 * ((gp l (j + 1)).1 - t) + (gp l (j + 1)).2 * (t - (gp l j).1), (gp l (j + 1)).1 - (gp l j).1)
def valOf (l : List (Int × Int)) (t : Int) : Int × Int :=
  if idxT l t = -1 then ((gp l (l.length - 1)).2, 1) else valAt l t (idxT l t).toNat
theorem gp_mem {l : List (Int × Int)} {k : Nat} (h : k < l.length) : gp l k ∈ l := by simp [gp, List.getD, h]
set_option maxRecDepth 100000 in
theorem end_any (l : List (Int × Int)) (a : Option Addr) (n c : Nat) (w : World) (hl : PairsR w a n l) (h0 : 0 < n) :
    Calls Try.prog 67 #[.agg #[.slice a n c]] w fun e' w' => e' = .returned (.agg #[.int .i64 (gp l (n - 1)).1, .int .i64 (gp l (n - 1)).2]) ∧ Below w.heap.size w w' := by
  obtain ⟨m, rfl⟩ : ∃ m, n = m + 1 := ⟨n - 1, by omega⟩
  have hn := hl.small
  obtain ⟨b0, o0, rfl, hb0, hc0⟩ := hl.addr h0
  have hc := hc0 m (by omega)
  have cx := hc.1
  have cy := hc.2
  rw [Nat.add_sub_cancel]
  clear hl hc0 hc
  obtain ⟨x, hx⟩ : ∃ x, x = (gp l m).1 := ⟨_, rfl⟩
  obtain ⟨y, hy⟩ : ∃ y, y = (gp l m).2 := ⟨_, rfl⟩
  rw [← hx] at cx
  rw [← hy] at cy
  rw [← hx, ← hy]
  clear hx hy
  have i0 : (0 : Int) ≤ (m : Int) := by omega
  go_enter Try.func67, Try.ntmps67
  go_wp2
  refine bodyPost_ret (v := .agg #[.int .i64 x, .int .i64 y]) (by simp [results, Try.results67, go_sem]) rfl ⟨rfl, ?_⟩
  (repeat' (first | (with_reducible exact Below.refl _ _) | (with_reducible assumption) | (with_reducible refine Below.drewN ?_ _) | (with_reducible refine Below.alloc ?_ ?_ _) | (with_reducible refine Below.drew ?_) | (with_reducible refine Below.setCell ?_ ?_ _) | (with_reducible refine Below.step (by assumption) ?_ ?_) | (with_reducible exact And.left (by assumption)) | go_size))
theorem field1 (x y : Int) (w : World) : (Instr.field 135 (.agg #[.int .i64 x, .int .i64 y]) 1).run Try.prog w = .ok (.int .i64 y) w := by kernel_rfl
set_option maxHeartbeats 1000000 in
set_option maxRecDepth 100000 in
theorem value_any (l : List (Int × Int)) (t : Int) (a : Option Addr) (n c : Nat) (w : World) (hl : PairsR w a n l) (h2 : 2 ≤ n) (bl : ∀ p ∈ l, 0 ≤ p.1 ∧ p.1 ≤ 1000000 ∧ -1000000 ≤ p.2 ∧ p.2 ≤ 1000000) (t0 : 0 ≤ t) (t1 : t ≤ 1000000) :
    Calls Try.prog 68 #[.agg #[.slice a n c], .int .i64 t] w fun e' w' => e' = .returned (.tuple #[.int .i64 (valOf l t).1, .int .i64 (valOf l t).2]) ∧ Below w.heap.size w w' := by
  have hn := hl.small
  have HI := Lib.hid (fun (w' : World) (hb : Below w.heap.size w w') (h1 : w.heap.size + 1 < w'.heap.size) h2 => indexPts_any (w.heap.size + 1) t l a n c w' (hl.below hb) h1 h2)
  have HEN := Lib.hid (fun (w' : World) (hb : Below w.heap.size w w') => end_any l a n c w' (hl.below hb) (by omega))
  have hlen := hl.len
  have hix := idxFrom_lt (fun p => decide (t ≤ p.1)) l 0
  have HV := Lib.hid (show valOf l t = if idxT l t = -1 then ((gp l (n - 1)).2, 1) else valAt l t (idxT l t).toNat by rw [← hlen]; rfl)
  unfold idxT at HV
  obtain ⟨b0, o0, rfl, hb0, hc0⟩ := hl.addr (by omega)
  have HC := Lib.hid hc0
  have HBL := Lib.hid (fun k (hk : k < n) => bl _ (gp_mem (l := l) (k := k) (by omega)))
  generalize idxFrom (fun p => decide (t ≤ p.1)) l 0 = I at *
  rw [hlen] at hix
  clear hl hc0 hlen bl
  rcases hix with rfl | ⟨m, rfl, hm⟩
  · obtain ⟨P1, hP1⟩ : ∃ P1, P1 = (gp l (n - 1)).1 := ⟨_, rfl⟩
    obtain ⟨P2, hP2⟩ : ∃ P2, P2 = (gp l (n - 1)).2 := ⟨_, rfl⟩
    rw [← hP1, ← hP2] at HEN
    have HP2 := Lib.hid hP2
    have HV' := Lib.hid (show valOf l t = ((gp l (n - 1)).2, 1) by rw [HV.out, if_pos rfl])
    clear hP1 hP2 HV
    have HV := HV'
    go_enter Try.func68, Try.ntmps68
    go_wp2_with fail
    refine (HI.out _ (by (repeat' (first | (with_reducible exact Below.refl _ _) | (with_reducible assumption) | (with_reducible refine Below.drewN ?_ _) | (with_reducible refine Below.alloc ?_ ?_ _) | (with_reducible refine Below.drew ?_) | (with_reducible refine Below.setCell ?_ ?_ _) | (with_reducible refine Below.step (by assumption) ?_ ?_) | (with_reducible exact And.left (by assumption)) | go_size))) (by simp) (by go_simp)).mono ?_
    rintro e5 w5 ⟨rfl, hb5⟩
    have hz5 := hb5.size
    simp only [World.size_alloc] at hz5
    have q0 : w5.cell? ⟨w.heap.size, 0, none⟩ = some (.slice (some ⟨b0, o0, none⟩) n c) := by { rw [cellB hb5 _ _ (by first | (simp; done) | (simp; omega) | omega)]; all_goals (first | assumption | go_simp) }; have q1 : w5.cell? ⟨w.heap.size + 1, 0, none⟩ = some (.int .i64 t) := by { rw [cellB hb5 _ _ (by first | (simp; done) | (simp; omega) | omega)]; all_goals (first | assumption | go_simp) }; have l0 : w.heap.size < w5.heap.size := by { omega }; have l1 : w.heap.size + 1 < w5.heap.size := by { omega }
    have HB5 := Lib.hid (show Below w.heap.size w w5 by (repeat' (first | (with_reducible exact Below.refl _ _) | (with_reducible assumption) | (with_reducible refine Below.drewN ?_ _) | (with_reducible refine Below.alloc ?_ ?_ _) | (with_reducible refine Below.drew ?_) | (with_reducible refine Below.setCell ?_ ?_ _) | (with_reducible refine Below.step (by assumption) ?_ ?_) | (with_reducible exact And.left (by assumption)) | go_size)))
    clear hb5 HI
    go_wp2_with fail
    refine (HEN.out _ HB5.out).mono ?_
    rintro e6 w6 ⟨rfl, hb6⟩
    have HB6 := Lib.hid (HB5.out.trans (hb6.mono HB5.out.size))
    clear hb6
    have hfd := field1 P1 P2
    go_wp2
    go_ret2
    refine ⟨?_, HB6.out⟩
    rw [HV.out, ← HP2.out]
    rfl
  · simp only [Nat.zero_add] at *
    have hxy := HC.out m hm
    have hbd := HBL.out m hm
    obtain ⟨x, hx⟩ : ∃ x, x = (gp l m).1 := ⟨_, rfl⟩
    obtain ⟨y, hy⟩ : ∃ y, y = (gp l m).2 := ⟨_, rfl⟩
    rw [← hx, ← hy] at hxy hbd
    have HX := Lib.hid hx
    have HY := Lib.hid hy
    clear hx hy HEN
    have i0 : (0 : Int) ≤ (m : Int) := by omega
    have i1 : (m : Int) < (n : Int) := by omega
    have i2 : ¬ ((m : Int) < 0) := by omega
    go_enter Try.func68, Try.ntmps68
    go_wp2_with fail
    refine (HI.out _ (by (repeat' (first | (with_reducible exact Below.refl _ _) | (with_reducible assumption) | (with_reducible refine Below.drewN ?_ _) | (with_reducible refine Below.alloc ?_ ?_ _) | (with_reducible refine Below.drew ?_) | (with_reducible refine Below.setCell ?_ ?_ _) | (with_reducible refine Below.step (by assumption) ?_ ?_) | (with_reducible exact And.left (by assumption)) | go_size))) (by simp) (by go_simp)).mono ?_
    rintro e5 w5 ⟨rfl, hb5⟩
    have hz5 := hb5.size
    simp only [World.size_alloc] at hz5
    have q0 : w5.cell? ⟨w.heap.size, 0, none⟩ = some (.slice (some ⟨b0, o0, none⟩) n c) := by { rw [cellB hb5 _ _ (by first | (simp; done) | (simp; omega) | omega)]; all_goals (first | assumption | go_simp) }; have q1 : w5.cell? ⟨w.heap.size + 1, 0, none⟩ = some (.int .i64 t) := by { rw [cellB hb5 _ _ (by first | (simp; done) | (simp; omega) | omega)]; all_goals (first | assumption | go_simp) }; have l0 : w.heap.size < w5.heap.size := by { omega }; have l1 : w.heap.size + 1 < w5.heap.size := by { omega }
    have hb5' : Below w.heap.size w w5 := by (repeat' (first | (with_reducible exact Below.refl _ _) | (with_reducible assumption) | (with_reducible refine Below.drewN ?_ _) | (with_reducible refine Below.alloc ?_ ?_ _) | (with_reducible refine Below.drew ?_) | (with_reducible refine Below.setCell ?_ ?_ _) | (with_reducible refine Below.step (by assumption) ?_ ?_) | (with_reducible exact And.left (by assumption)) | go_size))
    have HB5 := Lib.hid hb5'
    rw [← cellB hb5' _ _ hb0, ← cellB hb5' _ _ hb0] at hxy
    have cx := hxy.1
    have cy := hxy.2
    have hbl5 : b0 < w5.heap.size := by omega
    clear hb5 HI hb5' hxy
    by_cases hxt : x = t
    · have hxt' : (x == t) = true := by simpa using hxt
      have HR := Lib.hid (show valOf l t = (y, 1) by
        rw [HV.out, if_neg (by omega), Int.toNat_natCast]
        rcases m with _ | j
        · rw [valAt, if_pos (by rw [← HX.out]; exact hxt), HY.out]
        · rw [valAt, if_pos (by rw [← HX.out]; exact hxt), HY.out])
      clear hxt HV
      go_wp2
      go_quiet (fail)
      go_wp2
      go_ret2
      refine ⟨?_, ?_⟩
      · rw [HR.out]; rfl
      · have := HB5.out; (repeat' (first | (with_reducible exact Below.refl _ _) | (with_reducible assumption) | (with_reducible refine Below.drewN ?_ _) | (with_reducible refine Below.alloc ?_ ?_ _) | (with_reducible refine Below.drew ?_) | (with_reducible refine Below.setCell ?_ ?_ _) | (with_reducible refine Below.step (by assumption) ?_ ?_) | (with_reducible exact And.left (by assumption)) | go_size))
    · have hxt' : (x == t) = false := by simpa using hxt
      rcases m with _ | j
      · have HR := Lib.hid (show valOf l t = (0, 1) by
          rw [HV.out, if_neg (by omega), Int.toNat_natCast, valAt, if_neg (by rw [← HX.out]; exact hxt)])
        simp only [Nat.zero_mul, Nat.add_zero] at cx cy
        clear hxt HV
        go_wp2
        go_quiet (fail)
        go_wp2
        go_ret2
        refine ⟨?_, ?_⟩
        · rw [HR.out]; rfl
        · have := HB5.out; (repeat' (first | (with_reducible exact Below.refl _ _) | (with_reducible assumption) | (with_reducible refine Below.drewN ?_ _) | (with_reducible refine Below.alloc ?_ ?_ _) | (with_reducible refine Below.drew ?_) | (with_reducible refine Below.setCell ?_ ?_ _) | (with_reducible refine Below.step (by assumption) ?_ ?_) | (with_reducible exact And.left (by assumption)) | go_size))
      · have hpq := HC.out j (by omega)
        have hbp := HBL.out j (by omega)
        obtain ⟨p, hp⟩ : ∃ p, p = (gp l j).1 := ⟨_, rfl⟩
        obtain ⟨q, hq⟩ : ∃ q, q = (gp l j).2 := ⟨_, rfl⟩
        rw [← hp, ← hq] at hpq hbp
        rw [← cellB HB5.out _ _ hb0, ← cellB HB5.out _ _ hb0] at hpq
        have cp := hpq.1
        have cq := hpq.2
        have HR := Lib.hid (show valOf l t = (q * (x - t) + y * (t - p), x - p) by
          rw [HV.out, if_neg (by omega), Int.toNat_natCast, valAt, if_neg (by rw [← HX.out]; exact hxt), ← HX.out, ← HY.out, hp, hq])
        have b1 := mulb (a := q) (b := x - t) 1000000 1000000 1000000000000 (by omega) (by omega) (by omega) (by omega) (by omega)
        have b2 := mulb (a := y) (b := t - p) 1000000 1000000 1000000000000 (by omega) (by omega) (by omega) (by omega) (by omega)
        have hj0 : ((j : Int) + 1 == 0) = false := by simp; omega
        clear hxt HV hpq hp hq
        go_wp2
        go_quiet (fail)
        go_wp2
        generalize hW : w5.drewN _ = w6
        have hb6 : Below w5.heap.size w5 w6 := by rw [← hW]; (repeat' (first | (with_reducible exact Below.refl _ _) | (with_reducible assumption) | (with_reducible refine Below.drewN ?_ _) | (with_reducible refine Below.alloc ?_ ?_ _) | (with_reducible refine Below.drew ?_) | (with_reducible refine Below.setCell ?_ ?_ _) | (with_reducible refine Below.step (by assumption) ?_ ?_) | (with_reducible exact And.left (by assumption)) | go_size))
        have hz6 := hb6.size
        have i3 : (0 : Int) ≤ (j : Int) := by omega
        have i4 : (j : Int) < (n : Int) := by omega
        have i5 : (j : Int) ≤ 9223372036854775807 := by omega
        have q0' : w6.cell? ⟨w.heap.size, 0, none⟩ = some (.slice (some ⟨b0, o0, none⟩) n c) := by { rw [cellB hb6 _ _ (by first | (simp; done) | (simp; omega) | omega)]; all_goals (first | assumption | go_simp) }; have q1' : w6.cell? ⟨w.heap.size + 1, 0, none⟩ = some (.int .i64 t) := by { rw [cellB hb6 _ _ (by first | (simp; done) | (simp; omega) | omega)]; all_goals (first | assumption | go_simp) }; have l0' : w.heap.size < w6.heap.size := by { omega }; have l1' : w.heap.size + 1 < w6.heap.size := by { omega }; have cx' : w6.cell? ⟨b0, o0 + (j + 1) * 2, none⟩ = some (.int .i64 x) := by { rw [cellB hb6 _ _ (by first | (simp; done) | (simp; omega) | omega)]; all_goals (first | assumption | go_simp) }; have cy' : w6.cell? ⟨b0, o0 + (j + 1) * 2 + 1, none⟩ = some (.int .i64 y) := by { rw [cellB hb6 _ _ (by first | (simp; done) | (simp; omega) | omega)]; all_goals (first | assumption | go_simp) }; have cp' : w6.cell? ⟨b0, o0 + j * 2, none⟩ = some (.int .i64 p) := by { rw [cellB hb6 _ _ (by first | (simp; done) | (simp; omega) | omega)]; all_goals (first | assumption | go_simp) }; have cq' : w6.cell? ⟨b0, o0 + j * 2 + 1, none⟩ = some (.int .i64 q) := by { rw [cellB hb6 _ _ (by first | (simp; done) | (simp; omega) | omega)]; all_goals (first | assumption | go_simp) }
        have hbl6 : b0 < w6.heap.size := by omega
        have HB6 := Lib.hid (HB5.out.trans (hb6.mono HB5.out.size))
        clear hW hb6 q0 q1 l0 l1 cx cy cp cq HB5
        go_region
        all_goals
          go_wp2
          go_quiet (fail)
          go_wp2
          go_ret2
          refine ⟨?_, ?_⟩
          · rw [HR.out]; rfl
          · have := HB6.out; (repeat' (first | (with_reducible exact Below.refl _ _) | (with_reducible assumption) | (with_reducible refine Below.drewN ?_ _) | (with_reducible refine Below.alloc ?_ ?_ _) | (with_reducible refine Below.drew ?_) | (with_reducible refine Below.setCell ?_ ?_ _) | (with_reducible refine Below.step (by assumption) ?_ ?_) | (with_reducible exact And.left (by assumption)) | go_size))
end Go.Proofs.Ytbjgklifmillgaa

/- The value of an impulse at a time, as a fraction. -/
namespace Go.Proofs.Ytbjgklifmillgaa
open Go.RowKit
set_option linter.unusedVariables false

theorem impScan_zero (l : List (Int × Int)) : ∀ m i, (impScan l m i).2 = 0 → ∀ k, i ≤ k → k < i + m → ptErr l k = 0
  | 0, i, _, k, h1, h2 => by omega
  | m + 1, i, h, k, h1, h2 => by
    unfold impScan at h
    by_cases h0 : ptErr l i = 0
    · rw [if_pos h0] at h
      by_cases hk : k = i
      · subst hk; exact h0
      · exact impScan_zero l m (i + 1) h k (by omega) (by omega)
    · rw [if_neg h0] at h; exact absurd h h0
theorem impErr_zero {l : List (Int × Int)} (h : (impErr l).2 = 0) : 2 ≤ l.length ∧ l.length ≤ 12 ∧ ∀ k, k < l.length → ptOk l k = true ∧ ptLater l k = true := by
  unfold impErr at h
  by_cases h2 : 2 ≤ l.length
  · rw [if_pos h2] at h
    by_cases h12 : l.length ≤ 12
    · rw [if_pos h12] at h
      refine ⟨h2, h12, fun k hk => ?_⟩
      exact (unl_and _ _ _ _ (by omega) (by omega)).1 (impScan_zero l _ 0 h k (by omega) (by omega))
    · rw [if_neg h12] at h; simp at h
  · rw [if_neg h2] at h; simp at h
theorem imp_bd {l : List (Int × Int)} (h : (impErr l).2 = 0) (k : Nat) (hk : k < l.length) : 0 ≤ (gp l k).1 ∧ (gp l k).1 ≤ 1000000 ∧ -1000000 ≤ (gp l k).2 ∧ (gp l k).2 ≤ 1000000 := by
  have := ((impErr_zero h).2.2 k hk).1
  unfold ptOk at this
  simp only [Bool.and_eq_true, wi_iff] at this
  omega
theorem imp_mem_bd {l : List (Int × Int)} (h : (impErr l).2 = 0) : ∀ p ∈ l, 0 ≤ p.1 ∧ p.1 ≤ 1000000 ∧ -1000000 ≤ p.2 ∧ p.2 ≤ 1000000 := by
  intro p hp
  obtain ⟨i, hi, rfl⟩ := List.mem_iff_getElem.1 hp
  have := imp_bd h i hi
  simpa [gp, List.getD, hi] using this
theorem imp_lt {l : List (Int × Int)} (h : (impErr l).2 = 0) (j : Nat) (hj : j + 1 < l.length) : (gp l j).1 < (gp l (j + 1)).1 := by
  have := ((impErr_zero h).2.2 (j + 1) hj).2
  simpa [ptLater] using this
theorem valOf_bd {l : List (Int × Int)} {t : Int} (h : (impErr l).2 = 0) (t0 : 0 ≤ t) (t1 : t ≤ 1000000) : -2000000000000 ≤ (valOf l t).1 ∧ (valOf l t).1 ≤ 2000000000000 ∧ 0 < (valOf l t).2 ∧ (valOf l t).2 ≤ 1000000 := by
  have hz := impErr_zero h
  unfold valOf
  rcases idxFrom_lt (fun p => decide (t ≤ p.1)) l 0 with h1 | ⟨m, h1, h2⟩
  · have := imp_bd h (l.length - 1) (by omega)
    rw [if_pos (by unfold idxT; exact h1)]
    omega
  · rw [if_neg (by unfold idxT; rw [h1]; omega)]
    unfold idxT; rw [h1, Nat.zero_add, Int.toNat_natCast]
    have hb := imp_bd h m h2
    rcases m with _ | j
    · by_cases hq : (gp l 0).1 = t
      · rw [valAt, if_pos hq]; omega
      · rw [valAt, if_neg hq]; omega
    · have hp := imp_bd h j (by omega)
      have hl := imp_lt h j h2
      by_cases hq : (gp l (j + 1)).1 = t
      · rw [valAt, if_pos hq]; omega
      · rw [valAt, if_neg hq]
        have b1 := mulb (a := (gp l j).2) (b := (gp l (j + 1)).1 - t) 1000000 1000000 1000000000000 (by omega) (by omega) (by omega) (by omega) (by omega)
        have b2 := mulb (a := (gp l (j + 1)).2) (b := t - (gp l j).1) 1000000 1000000 1000000000000 (by omega) (by omega) (by omega) (by omega) (by omega)
        omega
/-- What ValueAt hands out: a fraction and an error. -/
def vaOf (l : List (Int × Int)) (t : Int) : (Int × Int) × Int :=
  let e := firstErr [(impErr l).2, unl (wi t 0 1000000) 2]
  if e = 0 then (let f := low (valOf l t).1 (valOf l t).2; if smallF f then (f, 0) else ((0, 0), 8)) else ((0, 0), e)
set_option maxRecDepth 100000 in
theorem valueAt_bad (l : List (Int × Int)) (t E : Int) (a : Option Addr) (n c : Nat) (w : World) (hl : PairsR w a n l) (hE : firstErr [(impErr l).2, unl (wi t 0 1000000) 2] = E) (h0 : E ≠ 0) :
    Calls Try.prog 21 #[.agg #[.slice a n c], .int .i64 t] w fun e' w' => e' = .returned (.tuple #[.agg #[.int .i64 0, .int .i64 0], .int .i64 E]) ∧ Below w.heap.size w w' := by
  have HC := Lib.hid (fun (w' : World) (hb : Below w.heap.size w w') => open_any l a n c w' (hl.below hb))
  have hn := hl.small
  clear hl
  generalize (impErr l).2 = e1 at *
  obtain ⟨g, hg⟩ : ∃ g, g = wi t 0 1000000 := ⟨_, rfl⟩
  rw [← hg] at hE
  have HG := Lib.hid hg
  have HE := Lib.hid hE
  have h1 : (E != 0) = true := by simpa using h0
  clear hg hE h0
  go_enter Try.func21, Try.ntmps21
  go_wp2_with fail
  refine (HC.out _ (by (repeat' (first | (with_reducible exact Below.refl _ _) | (with_reducible assumption) | (with_reducible refine Below.drewN ?_ _) | (with_reducible refine Below.alloc ?_ ?_ _) | (with_reducible refine Below.drew ?_) | (with_reducible refine Below.setCell ?_ ?_ _) | (with_reducible refine Below.step (by assumption) ?_ ?_) | (with_reducible exact And.left (by assumption)) | go_size)))).mono ?_
  rintro e5 w5 ⟨rfl, hb5⟩
  have hz5 := hb5.size
  simp only [World.size_alloc] at hz5
  have p0 : w5.cell? ⟨w.heap.size + 1, 0, none⟩ = some (.int .i64 0) := by { rw [cellB hb5 _ _ (by first | (simp; done) | (simp; omega) | omega)]; all_goals (first | assumption | go_simp) }; have p1 : w5.cell? ⟨w.heap.size + 1, 1, none⟩ = some (.int .i64 0) := by { rw [cellB hb5 _ _ (by first | (simp; done) | (simp; omega) | omega)]; all_goals (first | assumption | go_simp) }; have f0 : w5.frozen? ⟨w.heap.size + 1, 0, none⟩ = false := by { rw [frozenB hb5 _ _ (by first | (simp; done) | (simp; omega) | omega)]; all_goals (first | assumption | go_simp) }; have f1 : w5.frozen? ⟨w.heap.size + 1, 1, none⟩ = false := by { rw [frozenB hb5 _ _ (by first | (simp; done) | (simp; omega) | omega)]; all_goals (first | assumption | go_simp) }; have l1 : w.heap.size + 1 < w5.heap.size := by { omega }
  have HB5 := Lib.hid (show Below w.heap.size w w5 by (repeat' (first | (with_reducible exact Below.refl _ _) | (with_reducible assumption) | (with_reducible refine Below.drewN ?_ _) | (with_reducible refine Below.alloc ?_ ?_ _) | (with_reducible refine Below.drew ?_) | (with_reducible refine Below.setCell ?_ ?_ _) | (with_reducible refine Below.step (by assumption) ?_ ?_) | (with_reducible exact And.left (by assumption)) | go_size)))
  clear hb5 HC
  go_wp2_with fail
  refine (within_any _ _ _ _).mono ?_
  rintro e6 w6 ⟨rfl, rfl⟩
  rw [← HG.out]
  go_wp2_with fail
  refine (unless_any _ _ _).mono ?_
  rintro e6 w6 ⟨rfl, rfl⟩
  go_wp2_with fail
  refine (first2 _ _ _ _ _ _ (by rfl) (by simp)).mono ?_
  rintro e6 w6 ⟨rfl, rfl⟩
  rw [HE.out]
  generalize hW : (w5.alloc _).alloc _ = w6
  have hb6 : Below w5.heap.size w5 w6 := by rw [← hW]; (repeat' (first | (with_reducible exact Below.refl _ _) | (with_reducible assumption) | (with_reducible refine Below.drewN ?_ _) | (with_reducible refine Below.alloc ?_ ?_ _) | (with_reducible refine Below.drew ?_) | (with_reducible refine Below.setCell ?_ ?_ _) | (with_reducible refine Below.step (by assumption) ?_ ?_) | (with_reducible exact And.left (by assumption)) | go_size))
  have hz6 := hb6.size
  have p0' : w6.cell? ⟨w.heap.size + 1, 0, none⟩ = some (.int .i64 0) := by { rw [cellB hb6 _ _ (by first | (simp; done) | (simp; omega) | omega)]; all_goals (first | assumption | go_simp) }; have p1' : w6.cell? ⟨w.heap.size + 1, 1, none⟩ = some (.int .i64 0) := by { rw [cellB hb6 _ _ (by first | (simp; done) | (simp; omega) | omega)]; all_goals (first | assumption | go_simp) }; have f0' : w6.frozen? ⟨w.heap.size + 1, 0, none⟩ = false := by { rw [frozenB hb6 _ _ (by first | (simp; done) | (simp; omega) | omega)]; all_goals (first | assumption | go_simp) }; have f1' : w6.frozen? ⟨w.heap.size + 1, 1, none⟩ = false := by { rw [frozenB hb6 _ _ (by first | (simp; done) | (simp; omega) | omega)]; all_goals (first | assumption | go_simp) }; have l1' : w.heap.size + 1 < w6.heap.size := by { omega }
  have HB6 := Lib.hid (HB5.out.trans (hb6.mono HB5.out.size))
  clear hW hb6 p0 p1 f0 f1 l1 HB5
  go_wp2
  refine bodyPost_ret (v := .tuple #[.agg #[.int .i64 0, .int .i64 0], .int .i64 E]) (by simp [results, Try.results21, go_sem, p0', p1']) rfl ⟨rfl, ?_⟩
  have := HB6.out
  (repeat' (first | (with_reducible exact Below.refl _ _) | (with_reducible assumption) | (with_reducible refine Below.drewN ?_ _) | (with_reducible refine Below.alloc ?_ ?_ _) | (with_reducible refine Below.drew ?_) | (with_reducible refine Below.setCell ?_ ?_ _) | (with_reducible refine Below.step (by assumption) ?_ ?_) | (with_reducible exact And.left (by assumption)) | go_size))
set_option maxHeartbeats 1000000 in
set_option maxRecDepth 100000 in
theorem valueAt_ok (l : List (Int × Int)) (t : Int) (a : Option Addr) (n c : Nat) (w : World) (hl : PairsR w a n l) (h0 : (impErr l).2 = 0) (ht : wi t 0 1000000 = true) :
    Calls Try.prog 21 #[.agg #[.slice a n c], .int .i64 t] w fun e' w' => e' = .returned (.tuple (if smallF (low (valOf l t).1 (valOf l t).2) then #[.agg #[.int .i64 (low (valOf l t).1 (valOf l t).2).1, .int .i64 (low (valOf l t).1 (valOf l t).2).2], .int .i64 0] else #[.agg #[.int .i64 0, .int .i64 0], .int .i64 8])) ∧ Below w.heap.size w w' := by
  have hz := impErr_zero h0
  have hbd := wi_iff.1 ht
  have hvb := valOf_bd h0 hbd.1 hbd.2
  rw [hl.len] at hz
  have hn := hl.small
  have HC := Lib.hid (fun (w' : World) (hb : Below w.heap.size w w') => open_any l a n c w' (hl.below hb))
  rw [h0] at HC
  have HV := Lib.hid (fun (w' : World) (hb : Below w.heap.size w w') => value_any l t a n c w' (hl.below hb) hz.1 (imp_mem_bd h0) hbd.1 hbd.2)
  have HT := Lib.hid ht
  have hlow := Lib.hid (fun w' => lowest_any (valOf l t).1 (valOf l t).2 w' (by omega) (by omega) (by omega) (by omega))
  generalize valOf l t = v at *
  obtain ⟨x, y⟩ := v
  obtain ⟨⟨p, q⟩, hpq⟩ : ∃ f, low x y = f := ⟨_, rfl⟩
  simp only at hlow HV hvb
  rw [show x.tdiv (gc x y) = p from congrArg Prod.fst hpq, show y / gc x y = q from congrArg Prod.snd hpq] at hlow
  simp only [hpq]
  clear hpq hz hl h0 ht
  have HQ := Lib.hid (show smallF (p, q) = (wi p (-1000000000) 1000000000 && decide (q ≤ 1000000000)) from rfl)
  generalize smallF (p, q) = S at *
  go_enter Try.func21, Try.ntmps21
  go_wp2_with fail
  refine (HC.out _ (by (repeat' (first | (with_reducible exact Below.refl _ _) | (with_reducible assumption) | (with_reducible refine Below.drewN ?_ _) | (with_reducible refine Below.alloc ?_ ?_ _) | (with_reducible refine Below.drew ?_) | (with_reducible refine Below.setCell ?_ ?_ _) | (with_reducible refine Below.step (by assumption) ?_ ?_) | (with_reducible exact And.left (by assumption)) | go_size)))).mono ?_
  rintro e5 w5 ⟨rfl, hb5⟩
  have hz5 := hb5.size
  simp only [World.size_alloc] at hz5
  have p0 : w5.cell? ⟨w.heap.size + 1, 0, none⟩ = some (.int .i64 0) := by { rw [cellB hb5 _ _ (by first | (simp; done) | (simp; omega) | omega)]; all_goals (first | assumption | go_simp) }; have p1 : w5.cell? ⟨w.heap.size + 1, 1, none⟩ = some (.int .i64 0) := by { rw [cellB hb5 _ _ (by first | (simp; done) | (simp; omega) | omega)]; all_goals (first | assumption | go_simp) }; have f0 : w5.frozen? ⟨w.heap.size + 1, 0, none⟩ = false := by { rw [frozenB hb5 _ _ (by first | (simp; done) | (simp; omega) | omega)]; all_goals (first | assumption | go_simp) }; have f1 : w5.frozen? ⟨w.heap.size + 1, 1, none⟩ = false := by { rw [frozenB hb5 _ _ (by first | (simp; done) | (simp; omega) | omega)]; all_goals (first | assumption | go_simp) }; have l1 : w.heap.size + 1 < w5.heap.size := by { omega }
  have HB5 := Lib.hid (show Below w.heap.size w w5 by (repeat' (first | (with_reducible exact Below.refl _ _) | (with_reducible assumption) | (with_reducible refine Below.drewN ?_ _) | (with_reducible refine Below.alloc ?_ ?_ _) | (with_reducible refine Below.drew ?_) | (with_reducible refine Below.setCell ?_ ?_ _) | (with_reducible refine Below.step (by assumption) ?_ ?_) | (with_reducible exact And.left (by assumption)) | go_size)))
  clear hb5 HC
  go_wp2_with fail
  refine (within_any _ _ _ _).mono ?_
  rintro e6 w6 ⟨rfl, rfl⟩
  rw [HT.out]
  go_wp2_with fail
  refine (unless_any _ _ _).mono ?_
  rintro e6 w6 ⟨rfl, rfl⟩
  go_wp2_with fail
  refine (first2 _ _ _ _ _ _ (by rfl) (by simp)).mono ?_
  rintro e6 w6 ⟨rfl, rfl⟩
  rw [show firstErr [0, unl true 2] = 0 from rfl]
  generalize hW : World.alloc _ (Obj.cells #[Value.int IntKind.i64 0, Value.int IntKind.i64 (unl true 2)] 34) = w6
  have hb6 : Below w5.heap.size w5 w6 := by rw [← hW]; (repeat' (first | (with_reducible exact Below.refl _ _) | (with_reducible assumption) | (with_reducible refine Below.drewN ?_ _) | (with_reducible refine Below.alloc ?_ ?_ _) | (with_reducible refine Below.drew ?_) | (with_reducible refine Below.setCell ?_ ?_ _) | (with_reducible refine Below.step (by assumption) ?_ ?_) | (with_reducible exact And.left (by assumption)) | go_size))
  have hz6 := hb6.size
  have ci : w6.cell? ⟨w5.heap.size, 0, none⟩ = some (.slice a n c) := by { rw [← hW]; clear hW; go_simp }
  have li : w5.heap.size < w6.heap.size := by { rw [← hW]; simp; omega }
  have p0' : w6.cell? ⟨w.heap.size + 1, 0, none⟩ = some (.int .i64 0) := by { rw [cellB hb6 _ _ (by first | (simp; done) | (simp; omega) | omega)]; all_goals (first | assumption | go_simp) }; have p1' : w6.cell? ⟨w.heap.size + 1, 1, none⟩ = some (.int .i64 0) := by { rw [cellB hb6 _ _ (by first | (simp; done) | (simp; omega) | omega)]; all_goals (first | assumption | go_simp) }; have f0' : w6.frozen? ⟨w.heap.size + 1, 0, none⟩ = false := by { rw [frozenB hb6 _ _ (by first | (simp; done) | (simp; omega) | omega)]; all_goals (first | assumption | go_simp) }; have f1' : w6.frozen? ⟨w.heap.size + 1, 1, none⟩ = false := by { rw [frozenB hb6 _ _ (by first | (simp; done) | (simp; omega) | omega)]; all_goals (first | assumption | go_simp) }; have l1' : w.heap.size + 1 < w6.heap.size := by { omega }
  have HB6 := Lib.hid (HB5.out.trans (hb6.mono HB5.out.size))
  clear hW hb6 p0 p1 f0 f1 HB5
  go_wp2_with fail
  refine (HV.out _ HB6.out).mono ?_
  rintro e7 w7 ⟨rfl, hb7⟩
  have hz7 := hb7.size
  have p0 : w7.cell? ⟨w.heap.size + 1, 0, none⟩ = some (.int .i64 0) := by { rw [cellB hb7 _ _ (by first | (simp; done) | (simp; omega) | omega)]; all_goals (first | assumption | go_simp) }; have p1 : w7.cell? ⟨w.heap.size + 1, 1, none⟩ = some (.int .i64 0) := by { rw [cellB hb7 _ _ (by first | (simp; done) | (simp; omega) | omega)]; all_goals (first | assumption | go_simp) }; have f0 : w7.frozen? ⟨w.heap.size + 1, 0, none⟩ = false := by { rw [frozenB hb7 _ _ (by first | (simp; done) | (simp; omega) | omega)]; all_goals (first | assumption | go_simp) }; have f1 : w7.frozen? ⟨w.heap.size + 1, 1, none⟩ = false := by { rw [frozenB hb7 _ _ (by first | (simp; done) | (simp; omega) | omega)]; all_goals (first | assumption | go_simp) }; have l1'' : w.heap.size + 1 < w7.heap.size := by { omega }
  have HB7 := Lib.hid (HB6.out.trans (hb7.mono HB6.out.size))
  clear hb7 p0' p1' f0' f1' l1' HB6 ci li HV
  go_wp2_with fail
  refine (hlow.out _).mono ?_
  rintro e8 w8 ⟨rfl, hb8⟩
  have hz8 := hb8.size
  have p0' : w8.cell? ⟨w.heap.size + 1, 0, none⟩ = some (.int .i64 0) := by { rw [cellB hb8 _ _ (by first | (simp; done) | (simp; omega) | omega)]; all_goals (first | assumption | go_simp) }; have p1' : w8.cell? ⟨w.heap.size + 1, 1, none⟩ = some (.int .i64 0) := by { rw [cellB hb8 _ _ (by first | (simp; done) | (simp; omega) | omega)]; all_goals (first | assumption | go_simp) }; have f0' : w8.frozen? ⟨w.heap.size + 1, 0, none⟩ = false := by { rw [frozenB hb8 _ _ (by first | (simp; done) | (simp; omega) | omega)]; all_goals (first | assumption | go_simp) }; have f1' : w8.frozen? ⟨w.heap.size + 1, 1, none⟩ = false := by { rw [frozenB hb8 _ _ (by first | (simp; done) | (simp; omega) | omega)]; all_goals (first | assumption | go_simp) }; have l1' : w.heap.size + 1 < w8.heap.size := by { omega }
  have HB8 := Lib.hid (HB7.out.trans (hb8.mono HB7.out.size))
  clear hb8 p0 p1 f0 f1 HB7 hlow
  go_wp2_with fail
  refine (isSmall_any _ _ _).mono ?_
  rintro e9 w9 ⟨rfl, hb9⟩
  have hz9 := hb9.size
  simp only [World.size_alloc] at hz9
  have hlw : w8.heap.size < w9.heap.size := by omega
  have p0 : w9.cell? ⟨w.heap.size + 1, 0, none⟩ = some (.int .i64 0) := by { rw [cellB hb9 _ _ (by first | (simp; done) | (simp; omega) | omega)]; all_goals (first | assumption | go_simp) }; have p1 : w9.cell? ⟨w.heap.size + 1, 1, none⟩ = some (.int .i64 0) := by { rw [cellB hb9 _ _ (by first | (simp; done) | (simp; omega) | omega)]; all_goals (first | assumption | go_simp) }; have f0 : w9.frozen? ⟨w.heap.size + 1, 0, none⟩ = false := by { rw [frozenB hb9 _ _ (by first | (simp; done) | (simp; omega) | omega)]; all_goals (first | assumption | go_simp) }; have f1 : w9.frozen? ⟨w.heap.size + 1, 1, none⟩ = false := by { rw [frozenB hb9 _ _ (by first | (simp; done) | (simp; omega) | omega)]; all_goals (first | assumption | go_simp) }; have l1'' : w.heap.size + 1 < w9.heap.size := by { omega }; have cp : w9.cell? ⟨w8.heap.size, 0, none⟩ = some (.int .i64 p) := by { rw [cellB hb9 _ _ (by first | (simp; done) | (simp; omega) | omega)]; all_goals (first | assumption | go_simp) }; have cq : w9.cell? ⟨w8.heap.size, 1, none⟩ = some (.int .i64 q) := by { rw [cellB hb9 _ _ (by first | (simp; done) | (simp; omega) | omega)]; all_goals (first | assumption | go_simp) }
  have hb9' := Below.trans (show Below w8.heap.size w8 _ from Below.alloc (Below.refl _ _) (Nat.le_refl _) _) (hb9.mono (by simp))
  have HB9 := Lib.hid (HB8.out.trans (hb9'.mono HB8.out.size))
  clear hb9 hb9' HB8 p0' p1' f0' f1' l1'
  rw [← HQ.out]
  clear HQ
  cases S
  · go_wp2
    refine bodyPost_ret (v := .tuple #[.agg #[.int .i64 0, .int .i64 0], .int .i64 8]) (by simp [results, Try.results21, go_sem, p0, p1]) rfl ⟨rfl, ?_⟩
    have := HB9.out
    (repeat' (first | (with_reducible exact Below.refl _ _) | (with_reducible assumption) | (with_reducible refine Below.drewN ?_ _) | (with_reducible refine Below.alloc ?_ ?_ _) | (with_reducible refine Below.drew ?_) | (with_reducible refine Below.setCell ?_ ?_ _) | (with_reducible refine Below.step (by assumption) ?_ ?_) | (with_reducible exact And.left (by assumption)) | go_size))
  · go_wp2
    refine bodyPost_ret (v := .tuple #[.agg #[.int .i64 p, .int .i64 q], .int .i64 0]) (by simp [results, Try.results21, go_sem, p0, p1]) rfl ⟨rfl, ?_⟩
    have := HB9.out
    (repeat' (first | (with_reducible exact Below.refl _ _) | (with_reducible assumption) | (with_reducible refine Below.drewN ?_ _) | (with_reducible refine Below.alloc ?_ ?_ _) | (with_reducible refine Below.drew ?_) | (with_reducible refine Below.setCell ?_ ?_ _) | (with_reducible refine Below.step (by assumption) ?_ ?_) | (with_reducible exact And.left (by assumption)) | go_size))
end Go.Proofs.Ytbjgklifmillgaa

/- Impulses: copies, the reference's checks, equality. -/
namespace Go.Proofs.Ytbjgklifmillgaa
open Go.RowKit
set_option linter.unusedVariables false

theorem infoPoint : (Try.prog.info? 135).map (fun i => (i.zero, i.size, i.bytes)) = some (some (.agg #[.int .i64 0, .int .i64 0]), 2, 16) := by kernel_rfl
theorem sfloor_pos (x y : Int) (w : World) (hx0 : -9000000000000000000 ≤ x) (hx1 : x ≤ 9000000000000000000) (hy : 0 < y) (hy1 : y ≤ 9000000000000000000) :
    Calls Try.prog 63 #[.int .i64 x, .int .i64 y] w fun e' w' => e' = .returned (.int .i64 (x / y)) ∧ w = w' := by
  have hyn : (y == 0) = false := by simp; omega
  have hq := tdiv_bd x y 9000000000000000000 (by omega) (by omega)
  by_cases h0 : 0 ≤ x
  · have e1 : 0 ≤ x / y := Int.ediv_nonneg h0 (by omega)
    have e2 : x.tdiv y = x / y := Int.tdiv_eq_ediv_of_nonneg h0
    have e4 : x.tmod y = x % y := Int.tmod_eq_emod_of_nonneg h0
    have e3 : 0 ≤ x % y := Int.emod_nonneg _ (by omega)
    have ht' : decide (x.tmod y < 0) = false := by simp; omega
    have HE := Lib.hid e2
    clear e2 e4
    go_enter Try.func63, Try.ntmps63
    go_wp2
    go_ret
    exact ⟨ret_int HE.out, rfl⟩
  · have h0' : x < 0 := by omega
    have hE := Lib.hid (Int.tdiv_eq_ediv (a := x) (b := y))
    have hM := Lib.hid (Int.tmod_eq_emod (a := x) (b := y))
    by_cases hd : x % y = 0
    · have ht : x.tmod y = 0 := by rw [hM.out]; simp [Int.dvd_of_emod_eq_zero hd]; exact hd
      have ht' : decide (x.tmod y < 0) = false := by simp [ht]
      have HT := Lib.hid ht
      clear ht
      go_enter Try.func63, Try.ntmps63
      go_wp2
      go_ret
      exact ⟨ret_int (by rw [hE.out]; simp [Int.dvd_of_emod_eq_zero hd]), rfl⟩
    · have hnd : ¬ (0 ≤ x ∨ y ∣ x) := by
        rintro (h | h)
        · omega
        · exact hd (Int.emod_eq_zero_of_dvd h)
      have ht : x.tmod y < 0 := by
        rw [hM.out, if_neg hnd]
        have := Int.emod_lt_of_pos x hy
        omega
      have he : x.tdiv y - 1 = x / y := by
        rw [hE.out, if_neg hnd]
        have : y.sign = 1 := Int.sign_eq_one_of_pos hy
        omega
      have HE := Lib.hid he
      clear he
      go_enter Try.func63, Try.ntmps63
      go_wp2
      go_ret
      exact ⟨ret_int HE.out, rfl⟩
theorem isTail_any (n : Int) (w : World) : Calls Try.prog 60 #[.int .i64 n] w fun e' w' => e' = .returned (.bool (wi n 1 100000)) ∧ w = w' := by
  go_enter Try.func60, Try.ntmps60
  go_wp2_with (go_at_call 66; refine (within_any _ _ _ _).mono ?_; rintro e w' ⟨rfl, rfl⟩)
  go_ret
  exact ⟨rfl, rfl⟩
theorem fewPoints_any (a : Option Addr) (n c : Nat) (w : World) (hn : n ≤ 9223372036854775807) :
    Calls Try.prog 17 #[.agg #[.slice a n c]] w fun e' w' => e' = .returned (.bool (decide ((n : Int) ≤ 14))) ∧ Below w.heap.size w w' := by
  go_enter Try.func17, Try.ntmps17
  go_wp2
  go_ret
  exact ⟨rfl, by (repeat' (first | (with_reducible exact Below.refl _ _) | (with_reducible assumption) | (with_reducible refine Below.drewN ?_ _) | (with_reducible refine Below.alloc ?_ ?_ _) | (with_reducible refine Below.drew ?_) | (with_reducible refine Below.setCell ?_ ?_ _) | (with_reducible refine Below.step (by assumption) ?_ ?_) | (with_reducible exact And.left (by assumption)) | go_size))⟩
set_option maxRecDepth 100000 in
theorem copyImpulse_any (l : List (Int × Int)) (a : Option Addr) (n c : Nat) (w : World) (h : PairsR w a n l) (hn : n ≤ 100000) :
    Calls Try.prog 20 #[.agg #[.slice a n c]] w fun e' w' => ∃ a' c', e' = .returned (.agg #[.slice a' n c']) ∧ Below w.heap.size w w' ∧ PairsR w' a' n l := by
  have H := Lib.hid h
  clear h
  go_enter Try.func20, Try.ntmps20
  go_wp2_with (at_builtin; refine wpList_append_sl _ rfl _ _ 51 rfl (w.heap.size + 1 + 1) 135 _ 2 16 Try.underlying51 infoPoint rfl (by omega) (.slice (some ⟨w.heap.size + 1 + 1, 0, none⟩) 0 0) 0 [] rfl (owns_lit (cs := #[]) (by simp) (Nat.le_refl _) (by omega) rfl) a n c (pcells l) rfl (SlR.below H.out (by (repeat' (first | (with_reducible exact Below.refl _ _) | (with_reducible assumption) | (with_reducible refine Below.drewN ?_ _) | (with_reducible refine Below.alloc ?_ ?_ _) | (with_reducible refine Below.drew ?_) | (with_reducible refine Below.setCell ?_ ?_ _) | (with_reducible refine Below.step (by assumption) ?_ ?_) | (with_reducible exact And.left (by assumption)) | go_size)))) (pcells_one l) (by omega) (by omega) (by simp) ?_)
  intro v5 w5 hown _ hb5
  obtain ⟨a5, c5, rfl, _, _⟩ := owns_slice hown
  have hb6 : Below (w.heap.size + 1 + 1) ((w.alloc (Obj.cells #[.slice a n c] 53)).alloc (Obj.cells #[.slice none 0 0] 53)) w5 := Below.trans (by (repeat' (first | (with_reducible exact Below.refl _ _) | (with_reducible assumption) | (with_reducible refine Below.drewN ?_ _) | (with_reducible refine Below.alloc ?_ ?_ _) | (with_reducible refine Below.drew ?_) | (with_reducible refine Below.setCell ?_ ?_ _) | (with_reducible refine Below.step (by assumption) ?_ ?_) | (with_reducible exact And.left (by assumption)) | go_size))) hb5
  have hz5 := hb6.size
  simp only [World.size_alloc] at hz5
  have p0 : w5.cell? ⟨w.heap.size + 1, 0, none⟩ = some (.slice none 0 0) := by { rw [cellB hb6 _ _ (by first | (simp; done) | (simp; omega) | omega)]; all_goals (first | assumption | go_simp) }; have f0 : w5.frozen? ⟨w.heap.size + 1, 0, none⟩ = false := by { rw [frozenB hb6 _ _ (by first | (simp; done) | (simp; omega) | omega)]; all_goals (first | assumption | go_simp) }
  have HB := Lib.hid (show Below w.heap.size w w5 from Below.trans (b := (w.alloc (Obj.cells #[.slice a n c] 53)).alloc (Obj.cells #[.slice none 0 0] 53)) (by (repeat' (first | (with_reducible exact Below.refl _ _) | (with_reducible assumption) | (with_reducible refine Below.drewN ?_ _) | (with_reducible refine Below.alloc ?_ ?_ _) | (with_reducible refine Below.drew ?_) | (with_reducible refine Below.setCell ?_ ?_ _) | (with_reducible refine Below.step (by assumption) ?_ ?_) | (with_reducible exact And.left (by assumption)) | go_size))) (hb6.mono (by omega)))
  have HO := Lib.hid hown
  have l5 : w.heap.size + 1 < w5.heap.size := by omega
  clear hown hb5 hb6
  go_wp2
  refine bodyPost_ret (v := .agg #[.slice a5 n c5]) (by simp [results, Try.results20, go_sem, p0]) rfl ⟨a5, c5, by rw [show n = 0 + n by omega], ?_, ?_⟩
  · have := HB.out
    (repeat' (first | (with_reducible exact Below.refl _ _) | (with_reducible assumption) | (with_reducible refine Below.drewN ?_ _) | (with_reducible refine Below.alloc ?_ ?_ _) | (with_reducible refine Below.drew ?_) | (with_reducible refine Below.setCell ?_ ?_ _) | (with_reducible refine Below.step (by assumption) ?_ ?_) | (with_reducible exact And.left (by assumption)) | go_size))
  · have h := SlR.of_owns (ownsRow_setCell_below HO.out (a := ⟨w.heap.size + 1, 0, none⟩) (by simp) (.slice a5 (0 + n) c5))
    simp only [Nat.zero_add] at h
    exact h
set_option maxHeartbeats 1000000 in
set_option maxRecDepth 100000 in
theorem rcheckImpulse_any (l : List (Int × Int)) (a : Option Addr) (n c : Nat) (w : World) (hl : PairsR w a n l) :
    Calls Try.prog 64 #[.agg #[.slice a n c]] w fun e' w' => e' = .returned (.tuple #[.int .i64 (impErr l).1, .int .i64 (impErr l).2]) ∧ Below w.heap.size w w' := by
  have hn := hl.small
  have hlen := hl.len
  have HI := Lib.hid (show impErr l = if 2 ≤ n then (if n ≤ 12 then impScan l n 0 else (0, 8)) else (0, 10) by rw [← hlen]; rfl)
  by_cases h2 : 2 ≤ n
  · by_cases h12 : n ≤ 12
    · obtain ⟨b0, o0, rfl, hb0, hc0⟩ := hl.addr (by omega)
      have HC := Lib.hid hc0
      have HR := Lib.hid (show impErr l = impScan l n 0 by rw [HI.out, if_pos h2, if_pos h12])
      clear hl hc0 HI hlen
      have i0 : ¬ ((n : Int) < 2) := by omega
      have i1 : ¬ ((n : Int) > 12) := by omega
      go_enter Try.func64, Try.ntmps64
      go_wp2
      generalize hW : w.alloc (Obj.cells #[.slice (some ⟨b0, o0, none⟩) n c] 53) = w6
      have hb6 : Below w.heap.size w w6 := by rw [← hW]; (repeat' (first | (with_reducible exact Below.refl _ _) | (with_reducible assumption) | (with_reducible refine Below.drewN ?_ _) | (with_reducible refine Below.alloc ?_ ?_ _) | (with_reducible refine Below.drew ?_) | (with_reducible refine Below.setCell ?_ ?_ _) | (with_reducible refine Below.step (by assumption) ?_ ?_) | (with_reducible exact And.left (by assumption)) | go_size))
      have q0 : w6.cell? ⟨w.heap.size, 0, none⟩ = some (.slice (some ⟨b0, o0, none⟩) n c) := by { rw [← hW]; clear hW; go_simp }
      have l0 : w.heap.size < w6.heap.size := by rw [← hW]; simp
      have HB6 := Lib.hid hb6
      clear hW hb6
      go_loopw [4] (fun i wr => ∃ k : Nat, i = .int .i64 k ∧ k ≤ n ∧ Hid (impScan l (n - k) k = impScan l n 0) ∧ Hid (Below w6.heap.size w6 wr)) (fun i _ => n - (intOf i).toNat)
      case atStart => exact ⟨0, rfl, Nat.zero_le _, rfl, Lib.hid (Below.refl _ _)⟩
      case round =>
        obtain ⟨k, rfl, hk, hF, hB⟩ := hrel
        have hbr := hB.out
        have hzr := hbr.size
        have q0' : wr.cell? ⟨w.heap.size, 0, none⟩ = some (.slice (some ⟨b0, o0, none⟩) n c) := by { rw [cellB hbr _ _ (by first | (simp; done) | (simp; omega) | omega)]; all_goals (first | assumption | go_simp) }; have l0' : w.heap.size < wr.heap.size := by { omega }
        rcases Nat.lt_or_ge k n with hlt | hge
        · have hbw := HB6.out.trans (hbr.mono HB6.out.size)
          obtain ⟨x, hx⟩ : ∃ x, x = (gp l k).1 := ⟨_, rfl⟩
          obtain ⟨y, hy⟩ : ∃ y, y = (gp l k).2 := ⟨_, rfl⟩
          have cx : wr.cell? ⟨b0, o0 + k * 2, none⟩ = some (.int .i64 x) := by rw [cellB hbw _ _ hb0, hx]; exact (HC.out k hlt).1
          have cy : wr.cell? ⟨b0, o0 + k * 2 + 1, none⟩ = some (.int .i64 y) := by rw [cellB hbw _ _ hb0, hy]; exact (HC.out k hlt).2
          have hbr0 : b0 < wr.heap.size := by omega
          obtain ⟨m, hm⟩ : ∃ m, n - k = m + 1 := ⟨n - k - 1, by omega⟩
          have hF' := hF.out
          rw [hm, impScan] at hF'
          obtain ⟨g1, hg1⟩ : ∃ g1, g1 = wi x 0 1000000 := ⟨_, rfl⟩
          obtain ⟨g2, hg2⟩ : ∃ g2, g2 = wi y (-1000000) 1000000 := ⟨_, rfl⟩
          have hE2 : ptErr l k = firstErr [unl (g1 && g2) 2, unl (ptLater l k) 9] := by rw [hg1, hg2, hx, hy]; rfl
          rw [hE2] at hF'
          have HG1 := Lib.hid hg1
          have HG2 := Lib.hid hg2
          have HM := Lib.hid hm
          have HX := Lib.hid hx
          have i2 : (0 : Int) ≤ (k : Int) := by omega
          have i3 : (k : Int) < (n : Int) := by omega
          clear hy hm hE2 hg1 hg2 hbr hbw hx hF
          have HBx := Lib.hid (show Below w6.heap.size w6 _ from Below.alloc hB.out hzr (Obj.cells #[Value.int IntKind.i64 x, Value.int IntKind.i64 y] 135))
          rcases k with _ | j
          · simp only [Nat.zero_mul, Nat.add_zero] at cx cy
            go_wp2_with fail
            refine (bwithin_any _ _ _ _).mono ?_
            rintro e7 w7 ⟨rfl, rfl⟩
            rw [← HG1.out]
            cases g1
            · have HF := Lib.hid hF'
              clear hF'
              have HE := Lib.hid (show impErr l = (((0 : Nat) : Int), 2) by rw [HR.out, ← HF.out]; rfl)
              go_wp2
              go_ret2
              refine ⟨?_, HB6.out.trans ((HBx.out).mono HB6.out.size)⟩
              rw [HE.out]
              rfl
            · go_wp2_with fail
              refine (bwithin_any _ _ _ _).mono ?_
              rintro e7 w7 ⟨rfl, rfl⟩
              rw [← HG2.out]
              cases g2
              · have HF := Lib.hid hF'
                clear hF'
                have HE := Lib.hid (show impErr l = (((0 : Nat) : Int), 2) by rw [HR.out, ← HF.out]; rfl)
                go_wp2
                go_ret2
                refine ⟨?_, HB6.out.trans ((HBx.out).mono HB6.out.size)⟩
                rw [HE.out]
                rfl
              · have HF := Lib.hid hF'
                clear hF'
                go_wp2
                go_quiet (fail)
                have HBx := Lib.hid (HBx.out.drewN nq)
                go_wp2
                go_roundw
                case rel => exact ⟨0 + 1, by go_num, by omega, Lib.hid (by rw [← HF.out]; show impScan l (n - (0 + 1)) (0 + 1) = impScan l m (0 + 1); rw [show n - (0 + 1) = m by have := HM.out; omega]), HBx⟩
                case measure => simp [intOf]; omega
          · have hk0 : decide ((j : Int) + 1 > 0) = true := by rw [decide_eq_true_eq]; omega
            obtain ⟨z, hz⟩ : ∃ z, z = (gp l j).1 := ⟨_, rfl⟩
            have cz : wr.cell? ⟨b0, o0 + j * 2, none⟩ = some (.int .i64 z) := by rw [cellB (HB6.out.trans (hB.out.mono HB6.out.size)) _ _ hb0, hz]; exact (HC.out j (by omega)).1
            have hgt : ptLater l (j + 1) = !decide (x ≤ z) := by
              rw [HX.out, hz]
              simp only [ptLater, Nat.add_sub_cancel]
              generalize (gp l (j + 1)).1 = X
              generalize (gp l j).1 = Z
              by_cases h : X ≤ Z
              · rw [decide_eq_false (show ¬ (X > Z) by omega), decide_eq_true h]; simp
              · rw [decide_eq_true (show X > Z by omega), decide_eq_false h]; simp
            rw [hgt] at hF'
            clear hz hgt
            go_wp2_with fail
            refine (bwithin_any _ _ _ _).mono ?_
            rintro e7 w7 ⟨rfl, rfl⟩
            rw [← HG1.out]
            cases g1
            · have HF := Lib.hid hF'
              clear hF'
              have HE := Lib.hid (show impErr l = (((j + 1 : Nat) : Int), 2) by rw [HR.out, ← HF.out]; rfl)
              go_wp2
              go_ret2
              refine ⟨?_, HB6.out.trans ((HBx.out).mono HB6.out.size)⟩
              rw [HE.out]
              rfl
            · go_wp2_with fail
              refine (bwithin_any _ _ _ _).mono ?_
              rintro e7 w7 ⟨rfl, rfl⟩
              rw [← HG2.out]
              cases g2
              · have HF := Lib.hid hF'
                clear hF'
                have HE := Lib.hid (show impErr l = (((j + 1 : Nat) : Int), 2) by rw [HR.out, ← HF.out]; rfl)
                go_wp2
                go_ret2
                refine ⟨?_, HB6.out.trans ((HBx.out).mono HB6.out.size)⟩
                rw [HE.out]
                rfl
              · by_cases hxz : x ≤ z
                · have HF := Lib.hid hF'
                  have HE := Lib.hid (show impErr l = (((j + 1 : Nat) : Int), 9) by
                    rw [HR.out, ← HF.out, show decide (x ≤ z) = true by simpa using hxz]; rfl)
                  clear hF'
                  go_wp2
                  go_quiet (fail)
                  go_wp2
                  go_ret2
                  refine ⟨?_, HB6.out.trans ((HBx.out.drewN nq).mono HB6.out.size)⟩
                  rw [HE.out]
                  rfl
                · have hxz' : decide (x ≤ z) = false := by simpa using hxz
                  rw [hxz'] at hF'
                  have HF := Lib.hid hF'
                  clear hF'
                  go_wp2
                  go_quiet (fail)
                  have HBx := Lib.hid (HBx.out.drewN nq)
                  go_wp2
                  go_roundw
                  case rel => exact ⟨j + 1 + 1, by go_num, by omega, Lib.hid (by rw [← HF.out]; show impScan l (n - (j + 1 + 1)) (j + 1 + 1) = impScan l m (j + 1 + 1); rw [show n - (j + 1 + 1) = m by have := HM.out; omega]), HBx⟩
                  case measure => simp [intOf]; omega
        · obtain rfl : k = n := by omega
          have HBR := Lib.hid (HB6.out.trans (hB.out.mono HB6.out.size))
          have HN := Lib.hid (show impErr l = (0, 0) by rw [HR.out, ← hF.out, Nat.sub_self]; rfl)
          go_wp2
          go_ret2
          refine ⟨?_, HBR.out⟩
          rw [HN.out]
          rfl
    · have i0 : ¬ ((n : Int) < 2) := by omega
      have i1 : (n : Int) > 12 := by omega
      have HR := Lib.hid (show impErr l = (0, 8) by rw [HI.out, if_pos h2, if_neg h12])
      clear hl
      go_enter Try.func64, Try.ntmps64
      go_wp2
      go_ret2
      refine ⟨?_, by (repeat' (first | (with_reducible exact Below.refl _ _) | (with_reducible assumption) | (with_reducible refine Below.drewN ?_ _) | (with_reducible refine Below.alloc ?_ ?_ _) | (with_reducible refine Below.drew ?_) | (with_reducible refine Below.setCell ?_ ?_ _) | (with_reducible refine Below.step (by assumption) ?_ ?_) | (with_reducible exact And.left (by assumption)) | go_size))⟩
      rw [HR.out]
      rfl
  · have i0 : (n : Int) < 2 := by omega
    have HR := Lib.hid (show impErr l = (0, 10) by rw [HI.out, if_neg h2])
    clear hl
    go_enter Try.func64, Try.ntmps64
    go_wp2
    go_ret2
    refine ⟨?_, by (repeat' (first | (with_reducible exact Below.refl _ _) | (with_reducible assumption) | (with_reducible refine Below.drewN ?_ _) | (with_reducible refine Below.alloc ?_ ?_ _) | (with_reducible refine Below.drew ?_) | (with_reducible refine Below.setCell ?_ ?_ _) | (with_reducible refine Below.step (by assumption) ?_ ?_) | (with_reducible exact And.left (by assumption)) | go_size))⟩
    rw [HR.out]
    rfl
theorem impulseErr_any (l : List (Int × Int)) (a : Option Addr) (n c : Nat) (w : World) (hl : PairsR w a n l) :
    Calls Try.prog 18 #[.agg #[.slice a n c]] w fun e' w' => e' = .returned (.int .i64 (impErr l).2) ∧ Below w.heap.size w w' := by
  have HC := Lib.hid (fun (w' : World) (hb : Below w.heap.size w w') => rcheckImpulse_any l a n c w' (hl.below hb))
  clear hl
  generalize impErr l = E at HC
  obtain ⟨i, E⟩ := E
  go_enter Try.func18, Try.ntmps18
  go_wp2_with fail
  refine (HC.out _ (by (repeat' (first | (with_reducible exact Below.refl _ _) | (with_reducible assumption) | (with_reducible refine Below.drewN ?_ _) | (with_reducible refine Below.alloc ?_ ?_ _) | (with_reducible refine Below.drew ?_) | (with_reducible refine Below.setCell ?_ ?_ _) | (with_reducible refine Below.step (by assumption) ?_ ?_) | (with_reducible exact And.left (by assumption)) | go_size)))).mono ?_
  rintro e5 w5 ⟨rfl, hb5⟩
  have hz5 := hb5.size
  simp only [World.size_alloc] at hz5
  go_wp2
  go_ret
  exact ⟨rfl, by (repeat' (first | (with_reducible exact Below.refl _ _) | (with_reducible assumption) | (with_reducible refine Below.drewN ?_ _) | (with_reducible refine Below.alloc ?_ ?_ _) | (with_reducible refine Below.drew ?_) | (with_reducible refine Below.setCell ?_ ?_ _) | (with_reducible refine Below.step (by assumption) ?_ ?_) | (with_reducible exact And.left (by assumption)) | go_size))⟩
end Go.Proofs.Ytbjgklifmillgaa

/- The reference's value of an impulse. -/
namespace Go.Proofs.Ytbjgklifmillgaa
open Go.RowKit
set_option linter.unusedVariables false

/-- What the reference says of a value: a numerator and a denominator. -/
def RV (l : List (Int × Int)) (t num den : Int) : Prop :=
  (t < (gp l 0).1 ∧ num = 0 ∧ den = 1) ∨
  ((gp l 0).1 ≤ t ∧ (gp l (l.length - 1)).1 ≤ t ∧ num = (gp l (l.length - 1)).2 ∧ den = 1) ∨
  (∃ i, i + 1 < l.length ∧ (gp l i).1 ≤ t ∧ t < (gp l (i + 1)).1 ∧ den = (gp l (i + 1)).1 - (gp l i).1 ∧ num = (gp l i).2 * den + ((gp l (i + 1)).2 - (gp l i).2) * (t - (gp l i).1))
theorem imp_mono {l : List (Int × Int)} (h : (impErr l).2 = 0) : ∀ (d j : Nat), j + d < l.length → (gp l j).1 + d ≤ (gp l (j + d)).1
  | 0, j, _ => by simp
  | d + 1, j, hd => by
    have h1 := imp_mono h d j (by omega)
    have h2 := imp_lt h (j + d) (by omega)
    rw [show j + (d + 1) = j + d + 1 by omega]
    omega
theorem imp_le {l : List (Int × Int)} (h : (impErr l).2 = 0) (i j : Nat) (hij : i ≤ j) (hj : j < l.length) : (gp l i).1 ≤ (gp l j).1 := by
  have := imp_mono h (j - i) i (by omega)
  rw [show i + (j - i) = j by omega] at this
  omega
theorem imp_slt {l : List (Int × Int)} (h : (impErr l).2 = 0) (i j : Nat) (hij : i < j) (hj : j < l.length) : (gp l i).1 < (gp l j).1 := by
  have := imp_mono h (j - i) i (by omega)
  rw [show i + (j - i) = j by omega] at this
  omega
/-- The index that the program finds. -/
theorem idx_spec (t : Int) : ∀ (l : List (Int × Int)) (k : Nat), (idxFrom (fun p => decide (t ≤ p.1)) l k = -1 ∧ ∀ p ∈ l, p.1 < t) ∨ ∃ m : Nat, idxFrom (fun p => decide (t ≤ p.1)) l k = ((k + m : Nat) : Int) ∧ m < l.length ∧ t ≤ (gp l m).1 ∧ ∀ i, i < m → (gp l i).1 < t
  | [], k => .inl ⟨rfl, by simp⟩
  | x :: r, k => by
    by_cases hx : t ≤ x.1
    · refine .inr ⟨0, by simp [idxFrom, hx], by simp, by simpa [gp] using hx, fun i hi => by omega⟩
    · rcases idx_spec t r (k + 1) with ⟨h1, h2⟩ | ⟨m, h1, h2, h3, h4⟩
      · refine .inl ⟨by simp [idxFrom, hx, h1], ?_⟩
        intro p hp
        rcases List.mem_cons.1 hp with rfl | hp
        · omega
        · exact h2 p hp
      · refine .inr ⟨m + 1, by simp only [idxFrom]; rw [if_neg (by simpa using hx), h1]; congr 1; omega, by simp; omega, by simpa [gp] using h3, ?_⟩
        intro i hi
        rcases i with _ | i
        · simp only [gp, List.getD_cons_zero]; omega
        · have := h4 i (by omega)
          simpa [gp] using this
theorem rv_val {l : List (Int × Int)} {t num den : Int} (h : (impErr l).2 = 0) (hr : RV l t num den) : ∃ c, 0 < c ∧ num = c * (valOf l t).1 ∧ den = c * (valOf l t).2 := by
  have hz := impErr_zero h
  unfold valOf idxT
  rcases idx_spec t l 0 with ⟨h1, h2⟩ | ⟨m, h1, h2, h3, h4⟩
  · have hlast := h2 _ (gp_mem (l := l) (k := l.length - 1) (by omega))
    rw [if_pos h1]
    refine ⟨1, by omega, ?_⟩
    rcases hr with ⟨a, _⟩ | ⟨_, _, rfl, rfl⟩ | ⟨i, a, b, c, _⟩
    · have := imp_le h 0 (l.length - 1) (by omega) (by omega); omega
    · simp
    · have := imp_le h (i + 1) (l.length - 1) (by omega) (by omega); omega
  · rw [Nat.zero_add] at h1
    rw [if_neg (by rw [h1]; omega), h1, Int.toNat_natCast]
    by_cases hm : (gp l m).1 = t
    · have hv : valAt l t m = ((gp l m).2, 1) := by
        rcases m with _ | j
        · rw [valAt, if_pos hm]
        · rw [valAt, if_pos hm]
      rw [hv]
      rcases hr with ⟨a, _⟩ | ⟨_, b, rfl, rfl⟩ | ⟨i, a, b, c, rfl, rfl⟩
      · have := imp_le h 0 m (by omega) h2; omega
      · have hml : m = l.length - 1 := by
          rcases Nat.lt_or_ge m (l.length - 1) with hlt | hge
          · have := imp_slt h m (l.length - 1) hlt (by omega); omega
          · omega
        subst hml
        exact ⟨1, by omega, by simp, by simp⟩
      · have hmi : m = i := by
          rcases Nat.lt_trichotomy m i with hlt | heq | hgt
          · have := imp_slt h m i hlt (by omega); omega
          · exact heq
          · have := imp_le h (i + 1) m (by omega) h2; omega
        subst hmi
        have := imp_lt h m (by omega)
        refine ⟨(gp l (m + 1)).1 - (gp l m).1, by omega, ?_, by simp⟩
        rw [hm, Int.sub_self, Int.mul_zero, Int.add_zero, Int.mul_comm]
    · rcases m with _ | j
      · rw [valAt, if_neg hm]
        rcases hr with ⟨_, rfl, rfl⟩ | ⟨a, _⟩ | ⟨i, a, b, _⟩
        · exact ⟨1, by omega, by simp, by simp⟩
        · omega
        · have := imp_le h 0 i (by omega) (by omega); omega
      · rw [valAt, if_neg hm]
        have h5 := h4 j (by omega)
        rcases hr with ⟨a, _⟩ | ⟨_, b, _⟩ | ⟨i, a, b, c, rfl, rfl⟩
        · have := imp_le h 0 j (by omega) (by omega); omega
        · have := imp_le h (j + 1) (l.length - 1) (by omega) (by omega); omega
        · have hij : i = j := by
            rcases Nat.lt_trichotomy i j with hlt | heq | hgt
            · have := imp_le h (i + 1) j (by omega) (by omega); omega
            · exact heq
            · have := imp_le h (j + 1) i (by omega) (by omega); omega
          subst hij
          refine ⟨1, by omega, ?_, by simp⟩
          simp only [Int.one_mul]
          generalize (gp l i).2 = q
          generalize (gp l (i + 1)).2 = y
          generalize (gp l i).1 = p
          generalize (gp l (i + 1)).1 = x
          rw [Int.sub_mul y q, show x - p = (x - t) + (t - p) by omega, Int.mul_add]
          omega
theorem rv_floor {l : List (Int × Int)} {t num den : Int} (h : (impErr l).2 = 0) (hr : RV l t num den) : num / den = (valOf l t).1 / (valOf l t).2 := by
  obtain ⟨c, hc, rfl, rfl⟩ := rv_val h hr
  exact Int.mul_ediv_mul_of_pos _ _ hc
end Go.Proofs.Ytbjgklifmillgaa

/- The plain part of SurgeImpulses. -/
namespace Go.Proofs.Ytbjgklifmillgaa
open Go.RowKit
set_option linter.unusedVariables false

theorem gc_scale (c a b : Int) (hc : 0 < c) : gc (c * a) (c * b) = c * gc a b := by
  unfold gc
  rw [Int.gcd_mul_left]
  have : (c.natAbs : Int) = c := by omega
  rw [Int.natCast_mul, this]
theorem low_scale (c a b : Int) (hc : 0 < c) (hb : 0 < b) : low (c * a) (c * b) = low a b := by
  unfold low
  rw [gc_scale c a b hc, Int.mul_tdiv_mul_of_pos _ _ hc, Int.mul_ediv_mul_of_pos _ _ hc]
/-- The size of the slope of a piece. -/
def slOf (l : List (Int × Int)) (i : Nat) : Int × Int := low (sz ((gp l (i + 1)).2 - (gp l i).2)) ((gp l (i + 1)).1 - (gp l i).1)
/-- The first steepest of the pieces up to one. -/
def stB (l : List (Int × Int)) : Nat → Nat
  | 0 => 0
  | i + 1 => if (slOf l (stB l i)).1 * (slOf l (i + 1)).2 < (slOf l (i + 1)).1 * (slOf l (stB l i)).2 then i + 1 else stB l i
theorem stB_le (l : List (Int × Int)) : ∀ i, stB l i ≤ i
  | 0 => Nat.le_refl _
  | i + 1 => by
    unfold stB
    have := stB_le l i
    split <;> omega
theorem low_bd {a b M : Int} (ha0 : -M ≤ a) (ha1 : a ≤ M) (hM : 0 ≤ M) (hb0 : 0 < b) (hb1 : b ≤ 1000000) : -M ≤ (low a b).1 ∧ (low a b).1 ≤ M ∧ 0 ≤ (low a b).2 ∧ (low a b).2 ≤ 1000000 := by
  have hg0 := gc_pos (a := a) hb0
  have hq := tdiv_bd a (gc a b) M ha0 ha1
  refine ⟨hq.1, hq.2, Int.ediv_nonneg (by omega) (by omega), ?_⟩
  have := Int.ediv_le_self (gc a b) (show 0 ≤ b by omega)
  show b / gc a b ≤ _
  omega
theorem sl_raw {l : List (Int × Int)} (h : (impErr l).2 = 0) {i : Nat} (hi : i + 1 < l.length) : -2000000 ≤ (gp l (i + 1)).2 - (gp l i).2 ∧ (gp l (i + 1)).2 - (gp l i).2 ≤ 2000000 ∧ 0 < (gp l (i + 1)).1 - (gp l i).1 ∧ (gp l (i + 1)).1 - (gp l i).1 ≤ 1000000 := by
  have h1 := imp_bd h (i + 1) hi
  have h2 := imp_bd h i (by omega)
  have h3 := imp_lt h i hi
  omega
theorem sz_bd {x M : Int} (h0 : -M ≤ x) (h1 : x ≤ M) : 0 ≤ sz x ∧ sz x ≤ M := by
  unfold sz; omega
theorem sl_bd {l : List (Int × Int)} (h : (impErr l).2 = 0) {i : Nat} (hi : i + 1 < l.length) : -2000000 ≤ (slOf l i).1 ∧ (slOf l i).1 ≤ 2000000 ∧ 0 ≤ (slOf l i).2 ∧ (slOf l i).2 ≤ 1000000 := by
  have hr := sl_raw h hi
  have hs := sz_bd hr.1 hr.2.1
  exact low_bd (by omega) (by omega) (by omega) hr.2.2.1 hr.2.2.2
theorem sl_mul {l : List (Int × Int)} (h : (impErr l).2 = 0) {i j : Nat} (hi : i + 1 < l.length) (hj : j + 1 < l.length) : -2000000000000 ≤ (slOf l i).1 * (slOf l j).2 ∧ (slOf l i).1 * (slOf l j).2 ≤ 2000000000000 := by
  have h1 := sl_bd h hi
  have h2 := sl_bd h hj
  have := mulb (a := (slOf l i).1) (b := (slOf l j).2) 2000000 1000000 2000000000000 (by omega) (by omega) (by omega) (by omega) (by omega)
  omega
end Go.Proofs.Ytbjgklifmillgaa
