import Derived.Test.YtbjgklifmillgaaMFl
import Derived.Test.YtbjgklifmillgaaMLaw
/- More for SurgeFalling. -/
namespace Go.Proofs.Ytbjgklifmillgaa
open Go.RowKit
set_option linter.unusedVariables false

theorem bgcd_pos (a b : Int) (w : World) (ha0 : -9223372036854775808 ≤ a) (ha1 : a ≤ 9223372036854775807) (hb0 : 0 < b) (hb1 : b ≤ 9223372036854775807) :
    Calls Try.prog 71 #[.int .i64 a, .int .i64 b] w fun e' w' => e' = .returned (.int .i64 (gc a b)) ∧ ∃ n, w' = w.drewN n := by
  go_enter Try.func71, Try.ntmps71
  go_wp2
  go_loopw [0, 1] (fun x y wr => ∃ c d : Int, x = .int .i64 c ∧ y = .int .i64 d ∧ gc c d = gc a b ∧ -9223372036854775808 ≤ c ∧ c ≤ 9223372036854775807 ∧ -9223372036854775807 ≤ d ∧ d ≤ 9223372036854775807 ∧ (0 < d ∨ -9223372036854775807 ≤ c) ∧ ∃ n, wr = w.drewN n) (fun _ y _ => (intOf y).natAbs)
  case atStart => exact ⟨a, b, rfl, rfl, rfl, ha0, ha1, by omega, hb1, .inl hb0, 0, rfl⟩
  case round =>
    obtain ⟨c, d, rfl, rfl, hg, hc0, hc1, hd0, hd1, hcd, n, rfl⟩ := hrel
    have HG := Lib.hid hg; clear hg
    by_cases hd : d = 0
    · subst hd
      have hc2 : -9223372036854775807 ≤ c := by omega
      clear hcd
      go_wp2_with (go_at_call 84; refine (bsize_any _ _ (by omega) (by omega)).mono ?_; rintro e w' ⟨rfl, rfl⟩)
      go_ret
      exact ⟨ret_int (by rw [← HG.out, gc_zero]), n, rfl⟩
    · have hd' : (d == 0) = false := by simpa using hd
      have hd'' : (d != 0) = true := by simpa using hd
      have hlt := tmod_lt c d hd
      have hg := gcd_tmod c d
      have hbd : -9223372036854775807 ≤ c.tmod d ∧ c.tmod d ≤ 9223372036854775807 := by omega
      obtain ⟨r, hr⟩ : ∃ r, r = c.tmod d := ⟨_, rfl⟩
      have hr2 : c.tmod d = r := hr.symm
      rw [← hr] at hlt hg hbd
      have HR := Lib.hid hg
      clear hr hcd hg
      go_wp2
      go_region
      go_wp2
      go_roundw
      case rel => exact ⟨d, r, rfl, rfl, by rw [← HG.out]; unfold gc; rw [HR.out], by omega, by omega, by omega, by omega, .inr hd0, n + 1, rfl⟩
      case measure => simpa [intOf] using hlt
theorem isLowest_all (a b : Int) (w : World) (ha0 : -9223372036854775808 ≤ a) (ha1 : a ≤ 9223372036854775807) (hb1 : b ≤ 9223372036854775807) :
    Calls Try.prog 22 #[.agg #[.int .i64 a, .int .i64 b]] w fun e' w' => e' = .returned (.bool (decide (b > 0) && (gc a b == 1))) ∧ Below w.heap.size w w' := by
  by_cases h : b > 0
  · have hb : decide (b > 0) = true := by simpa using h
    rw [hb, Bool.true_and]
    obtain ⟨g, hg⟩ : ∃ g, g = gc a b := ⟨_, rfl⟩
    have HG := Lib.hid (fun w' => bgcd_pos a b w' ha0 ha1 (by omega) hb1)
    rw [← hg] at HG ⊢
    clear hg h
    go_enter Try.func22, Try.ntmps22
    go_wp2_with fail
    refine (HG.out _).mono ?_
    rintro e5 w5 ⟨rfl, k, rfl⟩
    go_wp2
    go_ret
    exact ⟨rfl, by (repeat' (first | (with_reducible exact Below.refl _ _) | (with_reducible assumption) | (with_reducible refine Below.drewN ?_ _) | (with_reducible refine Below.alloc ?_ ?_ _) | (with_reducible refine Below.drew ?_) | (with_reducible refine Below.setCell ?_ ?_ _) | (with_reducible refine Below.step (by assumption) ?_ ?_) | (with_reducible exact And.left (by assumption)) | go_size))⟩
  · have hb : decide (b > 0) = false := by simpa using h
    rw [hb, Bool.false_and]
    clear h
    go_enter Try.func22, Try.ntmps22
    go_wp2
    go_ret
    exact ⟨rfl, by (repeat' (first | (with_reducible exact Below.refl _ _) | (with_reducible assumption) | (with_reducible refine Below.drewN ?_ _) | (with_reducible refine Below.alloc ?_ ?_ _) | (with_reducible refine Below.drew ?_) | (with_reducible refine Below.setCell ?_ ?_ _) | (with_reducible refine Below.step (by assumption) ?_ ?_) | (with_reducible exact And.left (by assumption)) | go_size))⟩
theorem rfracErr_all (a b : Int) (w : World) (ha0 : -9223372036854775808 ≤ a) (ha1 : a ≤ 9223372036854775807) (hb1 : b ≤ 9223372036854775807) :
    Calls Try.prog 88 #[.agg #[.int .i64 a, .int .i64 b]] w fun e' w' => e' = .returned (.int .i64 (frE a b)) ∧ Below w.heap.size w w' := by
  have HI := Lib.hid (fun w' => isLowest_all a b w' ha0 ha1 hb1)
  have HS := Lib.hid (fun w' => bisSmall_any a b w')
  unfold frE
  generalize (decide (b > 0) && (gc a b == 1)) = x at *
  generalize (wi a (-1000000000) 1000000000 && wi b 1 1000000000) = y at *
  cases x
  · go_enter Try.func88, Try.ntmps88
    go_wp2_with fail
    refine (HI.out _).mono ?_
    rintro e5 w5 ⟨rfl, hb5⟩
    have HB5 := Lib.hid (show Below w.heap.size w w5 by (repeat' (first | (with_reducible exact Below.refl _ _) | (with_reducible assumption) | (with_reducible refine Below.drewN ?_ _) | (with_reducible refine Below.alloc ?_ ?_ _) | (with_reducible refine Below.drew ?_) | (with_reducible refine Below.setCell ?_ ?_ _) | (with_reducible refine Below.step (by assumption) ?_ ?_) | (with_reducible exact And.left (by assumption)) | go_size)))
    clear hb5
    go_wp2
    go_ret
    exact ⟨rfl, HB5.out⟩
  · go_enter Try.func88, Try.ntmps88
    go_wp2_with fail
    refine (HI.out _).mono ?_
    rintro e5 w5 ⟨rfl, hb5⟩
    have hz5 := hb5.size
    simp only [World.size_alloc] at hz5
    have q0 : w5.cell? ⟨w.heap.size, 0, none⟩ = some (.int .i64 a) := by { rw [cellB hb5 _ _ (by first | (simp; done) | (simp; omega) | omega)]; all_goals (first | assumption | go_simp) }; have q1 : w5.cell? ⟨w.heap.size, 1, none⟩ = some (.int .i64 b) := by { rw [cellB hb5 _ _ (by first | (simp; done) | (simp; omega) | omega)]; all_goals (first | assumption | go_simp) }; have l0 : w.heap.size < w5.heap.size := by { omega }
    have HB5 := Lib.hid (show Below w.heap.size w w5 by (repeat' (first | (with_reducible exact Below.refl _ _) | (with_reducible assumption) | (with_reducible refine Below.drewN ?_ _) | (with_reducible refine Below.alloc ?_ ?_ _) | (with_reducible refine Below.drew ?_) | (with_reducible refine Below.setCell ?_ ?_ _) | (with_reducible refine Below.step (by assumption) ?_ ?_) | (with_reducible exact And.left (by assumption)) | go_size)))
    clear hb5
    go_wp2_with fail
    refine (HS.out _).mono ?_
    rintro e6 w6 ⟨rfl, hb6⟩
    have HB6 := Lib.hid (HB5.out.trans (hb6.mono HB5.out.size))
    clear hb6
    cases y
    · go_wp2
      go_ret
      exact ⟨rfl, HB6.out⟩
    · go_wp2
      go_ret
      exact ⟨rfl, HB6.out⟩
theorem frE_ok {a b : Int} (h : frE a b = 0) : FrOk (a, b) := by
  unfold frE at h
  split at h
  · rename_i h1
    split at h
    · rename_i h2
      simp only [Bool.and_eq_true, decide_eq_true_eq, beq_iff_eq, wi_iff] at h1 h2
      exact ⟨h1.1, h1.2, h2.1.1, h2.1.2, h2.2.2⟩
    · omega
  · omega
/-! ### Ladders without Earth capacitances -/
theorem dd_free {s e : List Int} {n : Nat} (ls : s.length = n) (he : ∀ i, i < n → e.getD i 0 = 0) : ∀ m, m + 1 ≤ n → dd s e n (m + 1) = s.getD (n - m - 1) 0 * dd s e n m
  | 0, h => by
    show ownOf s e (n - 1) = s.getD (n - 0 - 1) 0 * 1
    unfold ownOf
    rw [if_neg (by omega), he _ (by omega), Int.mul_one, Int.add_zero]
    rfl
  | m + 1, h => by
    have ih := dd_free ls he m (by omega)
    show ownOf s e (n - m - 2) * dd s e n (m + 1) - s.getD (n - m - 1) 0 * s.getD (n - m - 1) 0 * dd s e n m = s.getD (n - (m + 1) - 1) 0 * dd s e n (m + 1)
    unfold ownOf
    rw [if_pos (by omega), he _ (by omega), show n - m - 2 + 1 = n - m - 1 by omega, show n - (m + 1) - 1 = n - m - 2 by omega, ih]
    grind
theorem Lad.free {s e : List Int} {n L : Nat} (h : Lad s e false n L) (he : ∀ i, i < n → e.getD i 0 = 0) {j : Nat} (hj : j < n + 1) : gp (initOf s e n L) j = (1, 1) := by
  have hL : L = n := by have := h.hL; unfold lastOf at this; simp at this; omega
  subst hL
  have key : ∀ j, j ≤ L → nu s e L j = dd s e L L := by
    intro j
    induction j with
    | zero => intro _; exact nu_zero s e L
    | succ j ih =>
      intro hj
      rw [← ih (by omega)]
      unfold nu
      rw [if_pos hj, if_pos (by omega)]
      obtain ⟨m, hm⟩ : ∃ m, L - j = m + 1 := ⟨L - j - 1, by omega⟩
      have h1 := dd_free h.ls he m (by omega)
      rw [show L - m - 1 = j by omega] at h1
      rw [hm, h1, show L - (j + 1) = m by omega]
      show pr s j * s.getD j 0 * dd s e L m = _
      rw [Int.mul_assoc]
  rw [init_gp hj, key j (by omega)]
  exact low_self h.D
/-- Whether so many nodes are free. -/
def frU (e : List Int) (g : Bool) : Nat → Bool
  | 0 => !g
  | k + 1 => frU e g k && (k == 0 || e.getD (k - 1) 0 == 0)
theorem frU_true {e : List Int} {g : Bool} : ∀ {m : Nat}, frU e g m = true → g = false ∧ ∀ i, i + 1 < m → e.getD i 0 = 0
  | 0, h => ⟨by simpa [frU] using h, fun i hi => by omega⟩
  | m + 1, h => by
    simp only [frU, Bool.and_eq_true, Bool.or_eq_true, beq_iff_eq] at h
    have ih := frU_true h.1
    refine ⟨ih.1, fun i hi => ?_⟩
    by_cases h1 : i + 1 < m
    · exact ih.2 i h1
    · rcases h.2 with h2 | h2
      · omega
      · rw [show m - 1 = i by omega] at h2; exact h2
end Go.Proofs.Ytbjgklifmillgaa

/- The acceptance of voltages: which index, which error. -/
namespace Go.Proofs.Ytbjgklifmillgaa
open Go.RowKit
set_option linter.unusedVariables false

theorem divisor_pos (a b : Int) (w : World) (ha0 : -9223372036854775808 ≤ a) (ha1 : a ≤ 9223372036854775807) (hb0 : 0 < b) (hb1 : b ≤ 9223372036854775807) :
    Calls Try.prog 116 #[.int .i64 a, .int .i64 b] w fun e' w' => e' = .returned (.int .i64 (gc a b)) ∧ ∃ n, w' = w.drewN n := by
  go_enter Try.func116, Try.ntmps116
  go_wp2
  go_loopw [0, 1] (fun x y wr => ∃ c d : Int, x = .int .i64 c ∧ y = .int .i64 d ∧ gc c d = gc a b ∧ -9223372036854775808 ≤ c ∧ c ≤ 9223372036854775807 ∧ -9223372036854775807 ≤ d ∧ d ≤ 9223372036854775807 ∧ (0 < d ∨ -9223372036854775807 ≤ c) ∧ ∃ n, wr = w.drewN n) (fun _ y _ => (intOf y).natAbs)
  case atStart => exact ⟨a, b, rfl, rfl, rfl, ha0, ha1, by omega, hb1, .inl hb0, 0, rfl⟩
  case round =>
    obtain ⟨c, d, rfl, rfl, hg, hc0, hc1, hd0, hd1, hcd, n, rfl⟩ := hrel
    have HG := Lib.hid hg; clear hg
    by_cases hd : d = 0
    · subst hd
      have hc2 : -9223372036854775807 ≤ c := by omega
      clear hcd
      go_wp2_with (go_at_call 75; refine (size_any _ _ (by omega) (by omega)).mono ?_; rintro e w' ⟨rfl, rfl⟩)
      go_ret
      exact ⟨ret_int (by rw [← HG.out, gc_zero]), n, rfl⟩
    · have hd' : (d == 0) = false := by simpa using hd
      have hd'' : (d != 0) = true := by simpa using hd
      have hlt := tmod_lt c d hd
      have hg := gcd_tmod c d
      have hbd : -9223372036854775807 ≤ c.tmod d ∧ c.tmod d ≤ 9223372036854775807 := by omega
      obtain ⟨r, hr⟩ : ∃ r, r = c.tmod d := ⟨_, rfl⟩
      have hr2 : c.tmod d = r := hr.symm
      rw [← hr] at hlt hg hbd
      have HR := Lib.hid hg
      clear hr hcd hg
      go_wp2
      go_region
      go_wp2
      go_roundw
      case rel => exact ⟨d, r, rfl, rfl, by rw [← HG.out]; unfold gc; rw [HR.out], by omega, by omega, by omega, by omega, .inr hd0, n + 1, rfl⟩
      case measure => simpa [intOf] using hlt
set_option maxRecDepth 100000 in
theorem fracErr_all (a b : Int) (w : World) (ha0 : -9223372036854775808 ≤ a) (ha1 : a ≤ 9223372036854775807) (hb1 : b ≤ 9223372036854775807) :
    Calls Try.prog 128 #[.agg #[.int .i64 a, .int .i64 b]] w fun e' w' => e' = .returned (.int .i64 (frE a b)) ∧ Below w.heap.size w w' := by
  have HS := Lib.hid (fun w' => isSmall_any a b w')
  by_cases hb : b > 0
  · have hbb : decide (b > 0) = true := by simpa using hb
    have HD := Lib.hid (fun w' => divisor_pos a b w' ha0 ha1 hb hb1)
    have hf : frE a b = firstErr [unl (gc a b == 1) 3, unl (wi a (-1000000000) 1000000000 && decide (b ≤ 1000000000)) 2] := by
      unfold frE
      rw [hbb, Bool.true_and]
      have : wi b 1 1000000000 = decide (b ≤ 1000000000) := by unfold wi; rw [show decide (1 ≤ b) = true by simp; omega, Bool.true_and]
      rw [this]
      cases gc a b == 1 <;> cases (wi a (-1000000000) 1000000000 && decide (b ≤ 1000000000)) <;> simp [firstErr, unl]
    have HF := Lib.hid hf
    generalize gc a b = G at *
    generalize (wi a (-1000000000) 1000000000 && decide (b ≤ 1000000000)) = S at *
    clear hf
    have hz : ∀ x : Bool, (G == 1) = x → Calls Try.prog 128 #[.agg #[.int .i64 a, .int .i64 b]] w fun e' w' => e' = .returned (.int .i64 (frE a b)) ∧ Below w.heap.size w w' := by
      intro x hx
      rw [hx] at HF
      cases x
      all_goals
        go_enter Try.func128, Try.ntmps128
        go_wp2
        refine later_of_eq 13 (by kernel_rfl) (by kernel_rfl) ?_; simp only [List.take_succ_cons, List.take_zero, List.drop_succ_cons, List.drop_zero]; repeat go_big_quiet_step (first | (go_at_call 116; exact calls_later_drew (HD.out _)) | exact calls_later_same (unless_any _ _ _))
        refine wpQuiet_nil ?_; intro w5 hb5
        have HB5 := Lib.hid (show Below w.heap.size w w5 by (repeat' (first | (with_reducible exact Below.refl _ _) | (with_reducible assumption) | (with_reducible refine Below.drewN ?_ _) | (with_reducible refine Below.alloc ?_ ?_ _) | (with_reducible refine Below.drew ?_) | (with_reducible refine Below.setCell ?_ ?_ _) | (with_reducible refine Below.step (by assumption) ?_ ?_) | (with_reducible exact And.left (by assumption)) | go_size)))
        clear hb5
        go_wp2_with fail
        refine (HS.out _).mono ?_
        rintro e6 w6 ⟨rfl, hb6⟩
        have HB6 := Lib.hid (HB5.out.trans (hb6.mono HB5.out.size))
        clear hb6
        go_wp2_with fail
        refine (unless_any _ _ _).mono ?_
        rintro e7 w7 ⟨rfl, rfl⟩
        go_wp2_with fail
        refine (first2 _ _ _ _ _ _ (by rfl) (by simp)).mono ?_
        rintro e8 w8 ⟨rfl, hw8⟩
        have HB8 := Lib.hid (show Below w.heap.size w w8 from HB6.out.trans ((show Below w6.heap.size w6 w8 by rw [← hw8]; (repeat' (first | (with_reducible exact Below.refl _ _) | (with_reducible assumption) | (with_reducible refine Below.drewN ?_ _) | (with_reducible refine Below.alloc ?_ ?_ _) | (with_reducible refine Below.drew ?_) | (with_reducible refine Below.setCell ?_ ?_ _) | (with_reducible refine Below.step (by assumption) ?_ ?_) | (with_reducible exact And.left (by assumption)) | go_size))).mono HB6.out.size))
        clear hw8
        go_wp2
        go_ret
        exact ⟨by rw [HF.out]; rfl, HB8.out⟩
    exact hz _ rfl
  · have hbb : decide (b > 0) = false := by simpa using hb
    have hf : frE a b = firstErr [unl false 3, unl (wi a (-1000000000) 1000000000 && decide (b ≤ 1000000000)) 2] := by
      unfold frE
      rw [hbb, Bool.false_and]
      simp [firstErr, unl]
    have HF := Lib.hid hf
    generalize (wi a (-1000000000) 1000000000 && decide (b ≤ 1000000000)) = S at *
    clear hf hb
    go_enter Try.func128, Try.ntmps128
    go_wp2
    refine later_of_eq 13 (by kernel_rfl) (by kernel_rfl) ?_; simp only [List.take_succ_cons, List.take_zero, List.drop_succ_cons, List.drop_zero]; repeat go_big_quiet_step (first | exact calls_later_same (unless_any _ _ _))
    refine wpQuiet_nil ?_; intro w5 hb5
    have HB5 := Lib.hid (show Below w.heap.size w w5 by (repeat' (first | (with_reducible exact Below.refl _ _) | (with_reducible assumption) | (with_reducible refine Below.drewN ?_ _) | (with_reducible refine Below.alloc ?_ ?_ _) | (with_reducible refine Below.drew ?_) | (with_reducible refine Below.setCell ?_ ?_ _) | (with_reducible refine Below.step (by assumption) ?_ ?_) | (with_reducible exact And.left (by assumption)) | go_size)))
    clear hb5
    go_wp2_with fail
    refine (HS.out _).mono ?_
    rintro e6 w6 ⟨rfl, hb6⟩
    have HB6 := Lib.hid (HB5.out.trans (hb6.mono HB5.out.size))
    clear hb6
    go_wp2_with fail
    refine (unless_any _ _ _).mono ?_
    rintro e7 w7 ⟨rfl, rfl⟩
    go_wp2_with fail
    refine (first2 _ _ _ _ _ _ (by rfl) (by simp)).mono ?_
    rintro e8 w8 ⟨rfl, hw8⟩
    have HB8 := Lib.hid (show Below w.heap.size w w8 from HB6.out.trans ((show Below w6.heap.size w6 w8 by rw [← hw8]; (repeat' (first | (with_reducible exact Below.refl _ _) | (with_reducible assumption) | (with_reducible refine Below.drewN ?_ _) | (with_reducible refine Below.alloc ?_ ?_ _) | (with_reducible refine Below.drew ?_) | (with_reducible refine Below.setCell ?_ ?_ _) | (with_reducible refine Below.step (by assumption) ?_ ?_) | (with_reducible exact And.left (by assumption)) | go_size))).mono HB6.out.size))
    clear hw8
    go_wp2
    go_ret
    exact ⟨by rw [HF.out]; rfl, HB8.out⟩
/-- The index and the error of voltages: f the errors of the fractions, h whether the nodes hold. -/
def CkPost (f : Nat → Int) (h : Nat → Bool) (m : Nat) (i E : Int) : Prop :=
  (∃ j : Nat, j < m ∧ (∀ k, k < j → f k = 0) ∧ f j ≠ 0 ∧ i = j ∧ E = f j) ∨
  ((∀ k, k < m → f k = 0) ∧ ∃ j : Nat, j < m ∧ (∀ k, k < j → h k = true) ∧ h j = false ∧ i = j ∧ E = 19) ∨
  ((∀ k, k < m → f k = 0) ∧ (∀ k, k < m → h k = true) ∧ i = 0 ∧ E = 0)
theorem first_not {p : Nat → Bool} : ∀ {m : Nat}, (¬ ∀ k, k < m → p k = true) → ∃ j, j < m ∧ p j ≠ true ∧ ∀ k, k < j → p k = true
  | 0, h => absurd (fun k hk => absurd hk (by omega)) h
  | m + 1, h => by
    by_cases h1 : ∀ k, k < m → p k = true
    · refine ⟨m, by omega, fun e => h (fun k hk => ?_), h1⟩
      by_cases hkm : k = m
      · rw [hkm]; exact e
      · exact h1 k (by omega)
    · obtain ⟨j, hj, hf, hm⟩ := first_not h1
      exact ⟨j, by omega, hf, hm⟩
theorem CkPost.one {f : Nat → Int} {h : Nat → Bool} {m : Nat} {i E i' E' : Int} (x : CkPost f h m i E) (y : CkPost f h m i' E') : i = i' ∧ E = E' := by
  rcases x with ⟨j, hj, h1, h2, rfl, rfl⟩ | ⟨h0, j, hj, h1, h2, rfl, rfl⟩ | ⟨h0, h1, rfl, rfl⟩
  · rcases y with ⟨j', hj', h1', h2', rfl, rfl⟩ | ⟨h0', j', hj', h1', h2', rfl, rfl⟩ | ⟨h0', h1', rfl, rfl⟩
    · have : j = j' := by
        rcases Nat.lt_trichotomy j j' with h | h | h
        · exact absurd (h1' j h) h2
        · exact h
        · exact absurd (h1 j' h) h2'
      subst this; exact ⟨rfl, rfl⟩
    · exact absurd (h0' j hj) h2
    · exact absurd (h0' j hj) h2
  · rcases y with ⟨j', hj', h1', h2', rfl, rfl⟩ | ⟨h0', j', hj', h1', h2', rfl, rfl⟩ | ⟨h0', h1', rfl, rfl⟩
    · exact absurd (h0 j' hj') h2'
    · have : j = j' := by
        rcases Nat.lt_trichotomy j j' with h | h | h
        · have := h1' j h; rw [h2] at this; exact absurd this (by simp)
        · exact h
        · have := h1 j' h; rw [h2'] at this; exact absurd this (by simp)
      subst this; exact ⟨rfl, rfl⟩
    · have := h1' j hj; rw [h2] at this; exact absurd this (by simp)
  · rcases y with ⟨j', hj', h1', h2', rfl, rfl⟩ | ⟨h0', j', hj', h1', h2', rfl, rfl⟩ | ⟨h0', h1', rfl, rfl⟩
    · exact absurd (h0 j' hj') h2'
    · have := h1 j' hj'; rw [h2'] at this; exact absurd this (by simp)
    · exact ⟨rfl, rfl⟩
end Go.Proofs.Ytbjgklifmillgaa
