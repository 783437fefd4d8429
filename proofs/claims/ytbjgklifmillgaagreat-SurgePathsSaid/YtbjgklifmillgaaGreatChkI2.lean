import Derived.Test.YtbjgklifmillgaaGreatFallLib2
import Derived.Test.YtbjgklifmillgaaGreatMLaw
/- The acceptance of voltages: which index, which error. -/
namespace Go.Proofs.YtbjgklifmillgaaGreat
open Go.RowKit
set_option linter.unusedVariables false

theorem divisor_pos (a b : Int) (w : World) (ha0 : -9223372036854775808 ≤ a) (ha1 : a ≤ 9223372036854775807) (hb0 : 0 < b) (hb1 : b ≤ 9223372036854775807) :
    Calls Tryz.prog 83 #[.int .i64 a, .int .i64 b] w fun e' w' => e' = .returned (.int .i64 (gc a b)) ∧ ∃ n, w' = w.drewN n := by
  go_enter Tryz.func83, Tryz.ntmps83
  go_wp2
  go_loopw [0, 1] (fun x y wr => ∃ c d : Int, x = .int .i64 c ∧ y = .int .i64 d ∧ gc c d = gc a b ∧ -9223372036854775808 ≤ c ∧ c ≤ 9223372036854775807 ∧ -9223372036854775807 ≤ d ∧ d ≤ 9223372036854775807 ∧ (0 < d ∨ -9223372036854775807 ≤ c) ∧ ∃ n, wr = w.drewN n) (fun _ y _ => (intOf y).natAbs)
  case atStart => exact ⟨a, b, rfl, rfl, rfl, ha0, ha1, by omega, hb1, .inl hb0, 0, rfl⟩
  case round =>
    obtain ⟨c, d, rfl, rfl, hg, hc0, hc1, hd0, hd1, hcd, n, rfl⟩ := hrel
    have HG := Lib.hid hg; clear hg
    by_cases hd : d = 0
    · subst hd
      have hc2 : -9223372036854775807 ≤ c := by omega
      clear hcd
      go_wp2_with (go_at_call 40; refine (size_any _ _ (by omega) (by omega)).mono ?_; rintro e w' ⟨rfl, rfl⟩)
      go_ret
      exact ⟨ret_int (by rw [← HG.out, gc_zero]), n, rfl⟩
    · have hd' : (d == 0) = false := by simpa using hd
      have hd'' : (d != 0) = true := by simpa using hd
      have hlt := tmod_lt c d hd
      have hg := gcd_tmod c d
      have hbd : -9223372036854775807 ≤ c.tmod d ∧ c.tmod d ≤ 9223372036854775807 := by omega
      obtain ⟨r, hr⟩ : ∃ r, r = c.tmod d := ⟨_, rfl⟩
      have hr2 : c.tmod d = r := hr.symm
      rw [← hr] at hlt hg hbd
      have HR := Lib.hid hg
      clear hr hcd hg
      go_wp2
      go_region
      go_wp2
      go_roundw
      case rel => exact ⟨d, r, rfl, rfl, by rw [← HG.out]; unfold gc; rw [HR.out], by omega, by omega, by omega, by omega, .inr hd0, n + 1, rfl⟩
      case measure => simpa [intOf] using hlt
set_option maxRecDepth 100000 in
theorem fracErr_all (a b : Int) (w : World) (ha0 : -9223372036854775808 ≤ a) (ha1 : a ≤ 9223372036854775807) (hb1 : b ≤ 9223372036854775807) :
    Calls Tryz.prog 54 #[.agg #[.int .i64 a, .int .i64 b]] w fun e' w' => e' = .returned (.int .i64 (frE a b)) ∧ Below w.heap.size w w' := by
  have HS := Lib.hid (fun w' => isSmall_any a b w')
  by_cases hb : b > 0
  · have hbb : decide (b > 0) = true := by simpa using hb
    have HD := Lib.hid (fun w' => divisor_pos a b w' ha0 ha1 hb hb1)
    have hf : frE a b = firstErr [unl (gc a b == 1) 3, unl (wi a (-1000000000) 1000000000 && decide (b ≤ 1000000000)) 2] := by
      unfold frE
      rw [hbb, Bool.true_and]
      have : wi b 1 1000000000 = decide (b ≤ 1000000000) := by unfold wi; rw [show decide (1 ≤ b) = true by simp; omega, Bool.true_and]
      rw [this]
      cases gc a b == 1 <;> cases (wi a (-1000000000) 1000000000 && decide (b ≤ 1000000000)) <;> simp [firstErr, unl]
    have HF := Lib.hid hf
    generalize gc a b = G at *
    generalize (wi a (-1000000000) 1000000000 && decide (b ≤ 1000000000)) = S at *
    clear hf
    have hz : ∀ x : Bool, (G == 1) = x → Calls Tryz.prog 54 #[.agg #[.int .i64 a, .int .i64 b]] w fun e' w' => e' = .returned (.int .i64 (frE a b)) ∧ Below w.heap.size w w' := by
      intro x hx
      rw [hx] at HF
      cases x
      all_goals
        go_enter Tryz.func54, Tryz.ntmps54
        go_wp2
        refine later_of_eq 13 (by kernel_rfl) (by kernel_rfl) ?_; simp only [List.take_succ_cons, List.take_zero, List.drop_succ_cons, List.drop_zero]; repeat go_big_quiet_step (first | (go_at_call 83; exact calls_later_drew (HD.out _)) | exact calls_later_same (unless_any _ _ _))
        refine wpQuiet_nil ?_; intro w5 hb5
        have HB5 := Lib.hid (show Below w.heap.size w w5 by (repeat' (first | (with_reducible exact Below.refl _ _) | (with_reducible assumption) | (with_reducible refine Below.drewN ?_ _) | (with_reducible refine Below.alloc ?_ ?_ _) | (with_reducible refine Below.drew ?_) | (with_reducible refine Below.setCell ?_ ?_ _) | (with_reducible refine Below.step (by assumption) ?_ ?_) | (with_reducible exact And.left (by assumption)) | go_size)))
        clear hb5
        go_wp2_with fail
        refine (HS.out _).mono ?_
        rintro e6 w6 ⟨rfl, hb6⟩
        have HB6 := Lib.hid (HB5.out.trans (hb6.mono HB5.out.size))
        clear hb6
        go_wp2_with fail
        refine (unless_any _ _ _).mono ?_
        rintro e7 w7 ⟨rfl, rfl⟩
        go_wp2_with fail
        refine (first2 _ _ _ _ _ _ (by rfl) (by simp)).mono ?_
        rintro e8 w8 ⟨rfl, hw8⟩
        have HB8 := Lib.hid (show Below w.heap.size w w8 from HB6.out.trans ((show Below w6.heap.size w6 w8 by rw [← hw8]; (repeat' (first | (with_reducible exact Below.refl _ _) | (with_reducible assumption) | (with_reducible refine Below.drewN ?_ _) | (with_reducible refine Below.alloc ?_ ?_ _) | (with_reducible refine Below.drew ?_) | (with_reducible refine Below.setCell ?_ ?_ _) | (with_reducible refine Below.step (by assumption) ?_ ?_) | (with_reducible exact And.left (by assumption)) | go_size))).mono HB6.out.size))
        clear hw8
        go_wp2
        go_ret
        exact ⟨by rw [HF.out]; rfl, HB8.out⟩
    exact hz _ rfl
  · have hbb : decide (b > 0) = false := by simpa using hb
    have hf : frE a b = firstErr [unl false 3, unl (wi a (-1000000000) 1000000000 && decide (b ≤ 1000000000)) 2] := by
      unfold frE
      rw [hbb, Bool.false_and]
      simp [firstErr, unl]
    have HF := Lib.hid hf
    generalize (wi a (-1000000000) 1000000000 && decide (b ≤ 1000000000)) = S at *
    clear hf hb
    go_enter Tryz.func54, Tryz.ntmps54
    go_wp2
    refine later_of_eq 13 (by kernel_rfl) (by kernel_rfl) ?_; simp only [List.take_succ_cons, List.take_zero, List.drop_succ_cons, List.drop_zero]; repeat go_big_quiet_step (first | exact calls_later_same (unless_any _ _ _))
    refine wpQuiet_nil ?_; intro w5 hb5
    have HB5 := Lib.hid (show Below w.heap.size w w5 by (repeat' (first | (with_reducible exact Below.refl _ _) | (with_reducible assumption) | (with_reducible refine Below.drewN ?_ _) | (with_reducible refine Below.alloc ?_ ?_ _) | (with_reducible refine Below.drew ?_) | (with_reducible refine Below.setCell ?_ ?_ _) | (with_reducible refine Below.step (by assumption) ?_ ?_) | (with_reducible exact And.left (by assumption)) | go_size)))
    clear hb5
    go_wp2_with fail
    refine (HS.out _).mono ?_
    rintro e6 w6 ⟨rfl, hb6⟩
    have HB6 := Lib.hid (HB5.out.trans (hb6.mono HB5.out.size))
    clear hb6
    go_wp2_with fail
    refine (unless_any _ _ _).mono ?_
    rintro e7 w7 ⟨rfl, rfl⟩
    go_wp2_with fail
    refine (first2 _ _ _ _ _ _ (by rfl) (by simp)).mono ?_
    rintro e8 w8 ⟨rfl, hw8⟩
    have HB8 := Lib.hid (show Below w.heap.size w w8 from HB6.out.trans ((show Below w6.heap.size w6 w8 by rw [← hw8]; (repeat' (first | (with_reducible exact Below.refl _ _) | (with_reducible assumption) | (with_reducible refine Below.drewN ?_ _) | (with_reducible refine Below.alloc ?_ ?_ _) | (with_reducible refine Below.drew ?_) | (with_reducible refine Below.setCell ?_ ?_ _) | (with_reducible refine Below.step (by assumption) ?_ ?_) | (with_reducible exact And.left (by assumption)) | go_size))).mono HB6.out.size))
    clear hw8
    go_wp2
    go_ret
    exact ⟨by rw [HF.out]; rfl, HB8.out⟩
/-- The index and the error of voltages: f the errors of the fractions, h whether the nodes hold. -/
def CkPost (f : Nat → Int) (h : Nat → Bool) (m : Nat) (i E : Int) : Prop :=
  (∃ j : Nat, j < m ∧ (∀ k, k < j → f k = 0) ∧ f j ≠ 0 ∧ i = j ∧ E = f j) ∨
  ((∀ k, k < m → f k = 0) ∧ ∃ j : Nat, j < m ∧ (∀ k, k < j → h k = true) ∧ h j = false ∧ i = j ∧ E = 19) ∨
  ((∀ k, k < m → f k = 0) ∧ (∀ k, k < m → h k = true) ∧ i = 0 ∧ E = 0)
theorem first_not {p : Nat → Bool} : ∀ {m : Nat}, (¬ ∀ k, k < m → p k = true) → ∃ j, j < m ∧ p j ≠ true ∧ ∀ k, k < j → p k = true
  | 0, h => absurd (fun k hk => absurd hk (by omega)) h
  | m + 1, h => by
    by_cases h1 : ∀ k, k < m → p k = true
    · refine ⟨m, by omega, fun e => h (fun k hk => ?_), h1⟩
      by_cases hkm : k = m
      · rw [hkm]; exact e
      · exact h1 k (by omega)
    · obtain ⟨j, hj, hf, hm⟩ := first_not h1
      exact ⟨j, by omega, hf, hm⟩
theorem CkPost.one {f : Nat → Int} {h : Nat → Bool} {m : Nat} {i E i' E' : Int} (x : CkPost f h m i E) (y : CkPost f h m i' E') : i = i' ∧ E = E' := by
  rcases x with ⟨j, hj, h1, h2, rfl, rfl⟩ | ⟨h0, j, hj, h1, h2, rfl, rfl⟩ | ⟨h0, h1, rfl, rfl⟩
  · rcases y with ⟨j', hj', h1', h2', rfl, rfl⟩ | ⟨h0', j', hj', h1', h2', rfl, rfl⟩ | ⟨h0', h1', rfl, rfl⟩
    · have : j = j' := by
        rcases Nat.lt_trichotomy j j' with h | h | h
        · exact absurd (h1' j h) h2
        · exact h
        · exact absurd (h1 j' h) h2'
      subst this; exact ⟨rfl, rfl⟩
    · exact absurd (h0' j hj) h2
    · exact absurd (h0' j hj) h2
  · rcases y with ⟨j', hj', h1', h2', rfl, rfl⟩ | ⟨h0', j', hj', h1', h2', rfl, rfl⟩ | ⟨h0', h1', rfl, rfl⟩
    · exact absurd (h0 j' hj') h2'
    · have : j = j' := by
        rcases Nat.lt_trichotomy j j' with h | h | h
        · have := h1' j h; rw [h2] at this; exact absurd this (by simp)
        · exact h
        · have := h1 j' h; rw [h2'] at this; exact absurd this (by simp)
      subst this; exact ⟨rfl, rfl⟩
    · have := h1' j hj; rw [h2] at this; exact absurd this (by simp)
  · rcases y with ⟨j', hj', h1', h2', rfl, rfl⟩ | ⟨h0', j', hj', h1', h2', rfl, rfl⟩ | ⟨h0', h1', rfl, rfl⟩
    · exact absurd (h0 j' hj') h2'
    · have := h1 j' hj'; rw [h2'] at this; exact absurd this (by simp)
    · exact ⟨rfl, rfl⟩
set_option maxRecDepth 100000 in
theorem checkInitial_bad (s e t : List Int) (a a1 a2 a3 : Option Addr) (n c n1 c1 n2 c2 m c3 : Nat) (g : Bool) (w : World) (hs : IntsR w a n s) (he : IntsR w a1 n1 e) (ht : IntsR w a2 n2 t)
    (h0 : ladErr s e t ≠ 0) (hn : n ≤ 9223372036854775806) :
    Calls Tryz.prog 15 #[.agg #[.slice a n c, .slice a1 n1 c1, .slice a2 n2 c2, .bool g], .slice a3 m c3] w fun e' w' => e' = .returned (.tuple #[.int .i64 0, .int .i64 (ladErr s e t)]) ∧ Below w.heap.size w w' := by
  have HS := Lib.hid (fun (w' : World) (hb' : Below w.heap.size w w') => checkLadder_any s e t a a1 a2 n c n1 c1 n2 c2 g w' (hs.below hb') (he.below hb') (ht.below hb'))
  generalize ladErr s e t = E at *
  have hE1 : (E != 0) = true := by simpa using h0
  have HF := Lib.hid (fun x => (show firstErr [E, x] = E by simp [firstErr, h0]))
  obtain ⟨u0, hu0⟩ : ∃ x, x = ((m : Int) == (n : Int) + 1) := ⟨_, rfl⟩
  have HU := Lib.hid hu0
  clear hs he ht h0 hu0
  go_enter Tryz.func15, Tryz.ntmps15
  go_wp2
  refine later_of_eq 9 (by kernel_rfl) (by kernel_rfl) ?_; simp only [List.take_succ_cons, List.take_zero, List.drop_succ_cons, List.drop_zero]; repeat go_big_quiet_step (exact calls_later (HS.out _ (Below.trans (by (repeat' (first | (with_reducible exact Below.refl _ _) | (with_reducible assumption) | (with_reducible refine Below.drewN ?_ _) | (with_reducible refine Below.alloc ?_ ?_ _) | (with_reducible refine Below.drew ?_) | (with_reducible refine Below.setCell ?_ ?_ _) | (with_reducible refine Below.step (by assumption) ?_ ?_) | (with_reducible exact And.left (by assumption)) | go_size))) (Below.mono (Later.below _) (by simp)))))
  refine wpQuiet_nil ?_; intro w5 hb5
  have hz5 := hb5.size
  simp only [World.size_alloc] at hz5
  have q0 : w5.cell? ⟨w.heap.size, 0, none⟩ = some (.slice a n c) := by { rw [cellB hb5 _ _ (by first | (simp; done) | (simp; omega) | omega)]; all_goals (first | assumption | go_simp) }; have q1 : w5.cell? ⟨w.heap.size, 1, none⟩ = some (.slice a1 n1 c1) := by { rw [cellB hb5 _ _ (by first | (simp; done) | (simp; omega) | omega)]; all_goals (first | assumption | go_simp) }; have q2 : w5.cell? ⟨w.heap.size, 2, none⟩ = some (.slice a2 n2 c2) := by { rw [cellB hb5 _ _ (by first | (simp; done) | (simp; omega) | omega)]; all_goals (first | assumption | go_simp) }; have q3 : w5.cell? ⟨w.heap.size, 3, none⟩ = some (.bool g) := by { rw [cellB hb5 _ _ (by first | (simp; done) | (simp; omega) | omega)]; all_goals (first | assumption | go_simp) }; have l0 : w.heap.size < w5.heap.size := by { omega }
  have HB5 := Lib.hid (show Below w.heap.size w w5 by (repeat' (first | (with_reducible exact Below.refl _ _) | (with_reducible assumption) | (with_reducible refine Below.drewN ?_ _) | (with_reducible refine Below.alloc ?_ ?_ _) | (with_reducible refine Below.drew ?_) | (with_reducible refine Below.setCell ?_ ?_ _) | (with_reducible refine Below.step (by assumption) ?_ ?_) | (with_reducible exact And.left (by assumption)) | go_size)))
  clear hb5 HS
  go_wp2_with fail
  refine (unless_any _ _ _).mono ?_
  rintro e6 w6 ⟨rfl, rfl⟩
  go_wp2_with fail
  refine (first2 _ _ _ _ _ _ (by rfl) (by simp)).mono ?_
  rintro e7 w7 ⟨rfl, hw7⟩
  have hb7 : Below w5.heap.size w5 w7 := by rw [← hw7]; (repeat' (first | (with_reducible exact Below.refl _ _) | (with_reducible assumption) | (with_reducible refine Below.drewN ?_ _) | (with_reducible refine Below.alloc ?_ ?_ _) | (with_reducible refine Below.drew ?_) | (with_reducible refine Below.setCell ?_ ?_ _) | (with_reducible refine Below.step (by assumption) ?_ ?_) | (with_reducible exact And.left (by assumption)) | go_size))
  have hz7 := hb7.size
  have q0c : w7.cell? ⟨w.heap.size, 0, none⟩ = some (.slice a n c) := by { rw [cellB hb7 _ _ (by first | (simp; done) | (simp; omega) | omega)]; all_goals (first | assumption | go_simp) }; have q1c : w7.cell? ⟨w.heap.size, 1, none⟩ = some (.slice a1 n1 c1) := by { rw [cellB hb7 _ _ (by first | (simp; done) | (simp; omega) | omega)]; all_goals (first | assumption | go_simp) }; have q2c : w7.cell? ⟨w.heap.size, 2, none⟩ = some (.slice a2 n2 c2) := by { rw [cellB hb7 _ _ (by first | (simp; done) | (simp; omega) | omega)]; all_goals (first | assumption | go_simp) }; have q3c : w7.cell? ⟨w.heap.size, 3, none⟩ = some (.bool g) := by { rw [cellB hb7 _ _ (by first | (simp; done) | (simp; omega) | omega)]; all_goals (first | assumption | go_simp) }; have l0c : w.heap.size < w7.heap.size := by { omega }
  have HB7 := Lib.hid (HB5.out.trans (hb7.mono HB5.out.size))
  clear hb7 hw7 q0 q1 q2 q3 l0 HB5
  rw [HF.out]
  go_wp2
  go_ret2
  exact ⟨rfl, HB7.out⟩
set_option maxRecDepth 100000 in
theorem checkInitial_shape (s e t : List Int) (a a1 a2 a3 : Option Addr) (n c n1 c1 n2 c2 m c3 : Nat) (g : Bool) (w : World) (hs : IntsR w a n s) (he : IntsR w a1 n1 e) (ht : IntsR w a2 n2 t)
    (h0 : ladErr s e t = 0) (hm : m ≠ n + 1) (hn : n ≤ 6) :
    Calls Tryz.prog 15 #[.agg #[.slice a n c, .slice a1 n1 c1, .slice a2 n2 c2, .bool g], .slice a3 m c3] w fun e' w' => e' = .returned (.tuple #[.int .i64 0, .int .i64 10]) ∧ Below w.heap.size w w' := by
  have HS := Lib.hid (fun (w' : World) (hb' : Below w.heap.size w w') => checkLadder_any s e t a a1 a2 n c n1 c1 n2 c2 g w' (hs.below hb') (he.below hb') (ht.below hb'))
  rw [h0] at HS
  have hme : ((m : Int) == (n : Int) + 1) = false := by simp; omega
  clear hs he ht h0 hm
  go_enter Tryz.func15, Tryz.ntmps15
  go_wp2
  refine later_of_eq 9 (by kernel_rfl) (by kernel_rfl) ?_; simp only [List.take_succ_cons, List.take_zero, List.drop_succ_cons, List.drop_zero]; repeat go_big_quiet_step (exact calls_later (HS.out _ (Below.trans (by (repeat' (first | (with_reducible exact Below.refl _ _) | (with_reducible assumption) | (with_reducible refine Below.drewN ?_ _) | (with_reducible refine Below.alloc ?_ ?_ _) | (with_reducible refine Below.drew ?_) | (with_reducible refine Below.setCell ?_ ?_ _) | (with_reducible refine Below.step (by assumption) ?_ ?_) | (with_reducible exact And.left (by assumption)) | go_size))) (Below.mono (Later.below _) (by simp)))))
  refine wpQuiet_nil ?_; intro w5 hb5
  have hz5 := hb5.size
  simp only [World.size_alloc] at hz5
  have q0 : w5.cell? ⟨w.heap.size, 0, none⟩ = some (.slice a n c) := by { rw [cellB hb5 _ _ (by first | (simp; done) | (simp; omega) | omega)]; all_goals (first | assumption | go_simp) }; have q1 : w5.cell? ⟨w.heap.size, 1, none⟩ = some (.slice a1 n1 c1) := by { rw [cellB hb5 _ _ (by first | (simp; done) | (simp; omega) | omega)]; all_goals (first | assumption | go_simp) }; have q2 : w5.cell? ⟨w.heap.size, 2, none⟩ = some (.slice a2 n2 c2) := by { rw [cellB hb5 _ _ (by first | (simp; done) | (simp; omega) | omega)]; all_goals (first | assumption | go_simp) }; have q3 : w5.cell? ⟨w.heap.size, 3, none⟩ = some (.bool g) := by { rw [cellB hb5 _ _ (by first | (simp; done) | (simp; omega) | omega)]; all_goals (first | assumption | go_simp) }; have l0 : w.heap.size < w5.heap.size := by { omega }
  have HB5 := Lib.hid (show Below w.heap.size w w5 by (repeat' (first | (with_reducible exact Below.refl _ _) | (with_reducible assumption) | (with_reducible refine Below.drewN ?_ _) | (with_reducible refine Below.alloc ?_ ?_ _) | (with_reducible refine Below.drew ?_) | (with_reducible refine Below.setCell ?_ ?_ _) | (with_reducible refine Below.step (by assumption) ?_ ?_) | (with_reducible exact And.left (by assumption)) | go_size)))
  clear hb5 HS
  go_wp2_with fail
  refine (unless_any _ _ _).mono ?_
  rintro e6 w6 ⟨rfl, rfl⟩
  go_wp2_with fail
  refine (first2 _ _ _ _ _ _ (by rfl) (by simp)).mono ?_
  rintro e7 w7 ⟨rfl, hw7⟩
  have hb7 : Below w5.heap.size w5 w7 := by rw [← hw7]; (repeat' (first | (with_reducible exact Below.refl _ _) | (with_reducible assumption) | (with_reducible refine Below.drewN ?_ _) | (with_reducible refine Below.alloc ?_ ?_ _) | (with_reducible refine Below.drew ?_) | (with_reducible refine Below.setCell ?_ ?_ _) | (with_reducible refine Below.step (by assumption) ?_ ?_) | (with_reducible exact And.left (by assumption)) | go_size))
  have hz7 := hb7.size
  have q0c : w7.cell? ⟨w.heap.size, 0, none⟩ = some (.slice a n c) := by { rw [cellB hb7 _ _ (by first | (simp; done) | (simp; omega) | omega)]; all_goals (first | assumption | go_simp) }; have q1c : w7.cell? ⟨w.heap.size, 1, none⟩ = some (.slice a1 n1 c1) := by { rw [cellB hb7 _ _ (by first | (simp; done) | (simp; omega) | omega)]; all_goals (first | assumption | go_simp) }; have q2c : w7.cell? ⟨w.heap.size, 2, none⟩ = some (.slice a2 n2 c2) := by { rw [cellB hb7 _ _ (by first | (simp; done) | (simp; omega) | omega)]; all_goals (first | assumption | go_simp) }; have q3c : w7.cell? ⟨w.heap.size, 3, none⟩ = some (.bool g) := by { rw [cellB hb7 _ _ (by first | (simp; done) | (simp; omega) | omega)]; all_goals (first | assumption | go_simp) }; have l0c : w.heap.size < w7.heap.size := by { omega }
  have HB7 := Lib.hid (HB5.out.trans (hb7.mono HB5.out.size))
  clear hb7 hw7 q0 q1 q2 q3 l0 HB5
  rw [show firstErr [0, unl false 10] = 10 from rfl]
  go_wp2
  go_ret2
  exact ⟨rfl, HB7.out⟩
set_option maxHeartbeats 4000000 in
set_option maxRecDepth 100000 in
theorem checkInitial_full (s e t : List Int) (u : List (Int × Int)) (a a1 a2 a3 : Option Addr) (n c n1 c1 n2 c2 m c3 : Nat) (g : Bool) (w : World) (hs : IntsR w a n s) (he : IntsR w a1 n1 e) (ht : IntsR w a2 n2 t) (hu : PairsR w a3 m u)
    (h0 : ladErr s e t = 0) (hm : m = n + 1) (hub : ∀ i, i < m → -9223372036854775808 ≤ (gp u i).1 ∧ (gp u i).1 ≤ 9223372036854775807 ∧ (gp u i).2 ≤ 9223372036854775807) :
    Calls Tryz.prog 15 #[.agg #[.slice a n c, .slice a1 n1 c1, .slice a2 n2 c2, .bool g], .slice a3 m c3] w fun e' w' => Below w.heap.size w w' ∧ ∃ i E, e' = .returned (.tuple #[.int .i64 i, .int .i64 E]) ∧ CkPost (fun j => frE (gp u j).1 (gp u j).2) (hold s e u g n) m i E := by
  obtain ⟨hl0, hel, htl, h6, bs, be, _⟩ := ladErr_zero h0
  have HS := Lib.hid (fun (w' : World) (hb' : Below w.heap.size w w') => checkLadder_any s e t a a1 a2 n c n1 c1 n2 c2 g w' (hs.below hb') (he.below hb') (ht.below hb'))
  rw [h0] at HS
  have hsl := hs.len
  rw [hsl] at hl0 h6 hel htl
  rw [he.len] at hel
  rw [ht.len] at htl
  obtain rfl : n = n1 := hel.symm
  obtain rfl : n = n2 := htl.symm
  have HCH := Lib.hid (fun (w' : World) => chainOf_any a a1 a2 n c n c1 n c2 g w')
  obtain ⟨b, o, rfl, hb, hcu⟩ := hu.addr (by omega)
  have HCU := Lib.hid hcu
  have HFE := Lib.hid (fun (i : Nat) (hi : i < m) (w' : World) => fracErr_all (gp u i).1 (gp u i).2 w' (hub i hi).1 (hub i hi).2.1 (hub i hi).2.2)
  have HZ0 := Lib.hid (fun (w' : World) (hb' : Below w.heap.size w w') => holds_zero s e u a a1 (some ⟨b, o, none⟩) n c n c1 m c3 g w' (hu.below hb') (by omega))
  have HZP := Lib.hid (fun (hok : ∀ i, i < m → frE (gp u i).1 (gp u i).2 = 0) (k : Nat) (hk : k < n) (w' : World) (hb' : Below w.heap.size w w') => holds_pos s e u a a1 (some ⟨b, o, none⟩) n c c1 m c3 k g w' (hs.below hb') (he.below hb') (hu.below hb') hm hk h6 bs be (fun i hi => by have := frE_ok (hok i hi); unfold FrOk at this; simp only at this; omega))
  have hme : ((m : Int) == (n : Int) + 1) = true := by simp; omega
  have hm7 : m ≤ 7 := by omega
  have HM := Lib.hid hm
  clear hs he ht hu h0 hub bs be hsl hcu hm
  go_enter Tryz.func15, Tryz.ntmps15
  go_wp2
  refine later_of_eq 9 (by kernel_rfl) (by kernel_rfl) ?_; simp only [List.take_succ_cons, List.take_zero, List.drop_succ_cons, List.drop_zero]; repeat go_big_quiet_step (exact calls_later (HS.out _ (Below.trans (by (repeat' (first | (with_reducible exact Below.refl _ _) | (with_reducible assumption) | (with_reducible refine Below.drewN ?_ _) | (with_reducible refine Below.alloc ?_ ?_ _) | (with_reducible refine Below.drew ?_) | (with_reducible refine Below.setCell ?_ ?_ _) | (with_reducible refine Below.step (by assumption) ?_ ?_) | (with_reducible exact And.left (by assumption)) | go_size))) (Below.mono (Later.below _) (by simp)))))
  refine wpQuiet_nil ?_; intro w5 hb5
  have hz5 := hb5.size
  simp only [World.size_alloc] at hz5
  have q0 : w5.cell? ⟨w.heap.size, 0, none⟩ = some (.slice a n c) := by { rw [cellB hb5 _ _ (by first | (simp; done) | (simp; omega) | omega)]; all_goals (first | assumption | go_simp) }; have q1 : w5.cell? ⟨w.heap.size, 1, none⟩ = some (.slice a1 n c1) := by { rw [cellB hb5 _ _ (by first | (simp; done) | (simp; omega) | omega)]; all_goals (first | assumption | go_simp) }; have q2 : w5.cell? ⟨w.heap.size, 2, none⟩ = some (.slice a2 n c2) := by { rw [cellB hb5 _ _ (by first | (simp; done) | (simp; omega) | omega)]; all_goals (first | assumption | go_simp) }; have q3 : w5.cell? ⟨w.heap.size, 3, none⟩ = some (.bool g) := by { rw [cellB hb5 _ _ (by first | (simp; done) | (simp; omega) | omega)]; all_goals (first | assumption | go_simp) }; have l0 : w.heap.size < w5.heap.size := by { omega }
  have HB5 := Lib.hid (show Below w.heap.size w w5 by (repeat' (first | (with_reducible exact Below.refl _ _) | (with_reducible assumption) | (with_reducible refine Below.drewN ?_ _) | (with_reducible refine Below.alloc ?_ ?_ _) | (with_reducible refine Below.drew ?_) | (with_reducible refine Below.setCell ?_ ?_ _) | (with_reducible refine Below.step (by assumption) ?_ ?_) | (with_reducible exact And.left (by assumption)) | go_size)))
  clear hb5 HS
  go_wp2_with fail
  refine (unless_any _ _ _).mono ?_
  rintro e6 w6 ⟨rfl, rfl⟩
  go_wp2_with fail
  refine (first2 _ _ _ _ _ _ (by rfl) (by simp)).mono ?_
  rintro e7 w7 ⟨rfl, hw7⟩
  have hb7 : Below w5.heap.size w5 w7 := by rw [← hw7]; (repeat' (first | (with_reducible exact Below.refl _ _) | (with_reducible assumption) | (with_reducible refine Below.drewN ?_ _) | (with_reducible refine Below.alloc ?_ ?_ _) | (with_reducible refine Below.drew ?_) | (with_reducible refine Below.setCell ?_ ?_ _) | (with_reducible refine Below.step (by assumption) ?_ ?_) | (with_reducible exact And.left (by assumption)) | go_size))
  have hz7 := hb7.size
  have q0c : w7.cell? ⟨w.heap.size, 0, none⟩ = some (.slice a n c) := by { rw [cellB hb7 _ _ (by first | (simp; done) | (simp; omega) | omega)]; all_goals (first | assumption | go_simp) }; have q1c : w7.cell? ⟨w.heap.size, 1, none⟩ = some (.slice a1 n c1) := by { rw [cellB hb7 _ _ (by first | (simp; done) | (simp; omega) | omega)]; all_goals (first | assumption | go_simp) }; have q2c : w7.cell? ⟨w.heap.size, 2, none⟩ = some (.slice a2 n c2) := by { rw [cellB hb7 _ _ (by first | (simp; done) | (simp; omega) | omega)]; all_goals (first | assumption | go_simp) }; have q3c : w7.cell? ⟨w.heap.size, 3, none⟩ = some (.bool g) := by { rw [cellB hb7 _ _ (by first | (simp; done) | (simp; omega) | omega)]; all_goals (first | assumption | go_simp) }; have l0c : w.heap.size < w7.heap.size := by { omega }
  have HB7 := Lib.hid (HB5.out.trans (hb7.mono HB5.out.size))
  clear hb7 hw7 q0 q1 q2 q3 l0 HB5 hme
  rw [show firstErr [0, unl true 10] = 0 from rfl]
  go_wp2_with fail
  go_loopw [29] (fun i wr => ∃ k : Nat, i = .int .i64 k ∧ k ≤ m ∧ Hid (∀ i, i < k → frE (gp u i).1 (gp u i).2 = 0) ∧ Hid (Below w7.heap.size w7 wr)) (fun i _ => m - (intOf i).toNat)
  case atStart => exact ⟨0, rfl, Nat.zero_le _, Lib.hid (fun i hi => by omega), Lib.hid (Below.refl _ _)⟩
  case round =>
    obtain ⟨k, rfl, hk, hFz, hBr⟩ := hrel
    have hbr := hBr.out
    have hzr := hbr.size
    have q0 : wr.cell? ⟨w.heap.size, 0, none⟩ = some (.slice a n c) := by { rw [cellB hbr _ _ (by first | (simp; done) | (simp; omega) | omega)]; all_goals (first | assumption | go_simp) }; have q1 : wr.cell? ⟨w.heap.size, 1, none⟩ = some (.slice a1 n c1) := by { rw [cellB hbr _ _ (by first | (simp; done) | (simp; omega) | omega)]; all_goals (first | assumption | go_simp) }; have q2 : wr.cell? ⟨w.heap.size, 2, none⟩ = some (.slice a2 n c2) := by { rw [cellB hbr _ _ (by first | (simp; done) | (simp; omega) | omega)]; all_goals (first | assumption | go_simp) }; have q3 : wr.cell? ⟨w.heap.size, 3, none⟩ = some (.bool g) := by { rw [cellB hbr _ _ (by first | (simp; done) | (simp; omega) | omega)]; all_goals (first | assumption | go_simp) }; have l0 : w.heap.size < wr.heap.size := by { omega }
    have HBw := Lib.hid (HB7.out.trans (hbr.mono HB7.out.size))
    clear hbr
    rcases Nat.lt_or_ge k m with hlt | hge
    · obtain ⟨P, hP⟩ : ∃ P, P = (gp u k).1 := ⟨_, rfl⟩
      obtain ⟨Q, hQ⟩ : ∃ P, P = (gp u k).2 := ⟨_, rfl⟩
      have cP : wr.cell? ⟨b, o + k * 2, none⟩ = some (.int .i64 P) := by rw [cellB HBw.out _ _ hb, hP]; exact (HCU.out k hlt).1
      have cQ : wr.cell? ⟨b, o + k * 2 + 1, none⟩ = some (.int .i64 Q) := by rw [cellB HBw.out _ _ hb, hQ]; exact (HCU.out k hlt).2
      have hfe := HFE.out k hlt
      rw [← hP, ← hQ] at hfe
      obtain ⟨F, hF⟩ : ∃ F, F = frE P Q := ⟨_, rfl⟩
      rw [← hF] at hfe
      have HFK := Lib.hid hfe
      have HFF := Lib.hid (show F = frE (gp u k).1 (gp u k).2 by rw [hF, hP, hQ])
      have i0 : (0 : Int) ≤ (k : Int) := by omega
      have i1 : (k : Int) < (m : Int) := by omega
      clear hP hQ hfe hF q0c q1c q2c q3c l0c
      by_cases hF0 : F = 0
      · subst hF0
        go_wp2_with fail
        refine (HFK.out _).mono ?_
        rintro e8 w8 ⟨rfl, hb8⟩
        have HB8 := Lib.hid (hBr.out.trans ((show Below wr.heap.size wr w8 from Below.trans (by (repeat' (first | (with_reducible exact Below.refl _ _) | (with_reducible assumption) | (with_reducible refine Below.drewN ?_ _) | (with_reducible refine Below.alloc ?_ ?_ _) | (with_reducible refine Below.drew ?_) | (with_reducible refine Below.setCell ?_ ?_ _) | (with_reducible refine Below.step (by assumption) ?_ ?_) | (with_reducible exact And.left (by assumption)) | go_size))) (hb8.mono (by simp))).mono hzr))
        clear hb8
        go_wp2
        go_roundw
        case rel => exact ⟨k + 1, by go_num, by omega, Lib.hid (fun i hi => by
          rcases Nat.lt_or_ge i k with h | h
          · exact hFz.out i h
          · rw [show i = k by omega]; exact HFF.out.symm), HB8⟩
        case measure => simp [intOf]; omega
      · have hF1 : (F != 0) = true := by simpa using hF0
        have HF0 := Lib.hid hF0
        clear hF0
        go_wp2_with fail
        refine (HFK.out _).mono ?_
        rintro e8 w8 ⟨rfl, hb8⟩
        have HB8 := Lib.hid (HBw.out.trans ((show Below wr.heap.size wr w8 from Below.trans (by (repeat' (first | (with_reducible exact Below.refl _ _) | (with_reducible assumption) | (with_reducible refine Below.drewN ?_ _) | (with_reducible refine Below.alloc ?_ ?_ _) | (with_reducible refine Below.drew ?_) | (with_reducible refine Below.setCell ?_ ?_ _) | (with_reducible refine Below.step (by assumption) ?_ ?_) | (with_reducible exact And.left (by assumption)) | go_size))) (hb8.mono (by simp))).mono HBw.out.size))
        clear hb8
        go_wp2
        go_ret2
        exact ⟨HB8.out, _, _, rfl, .inl ⟨k, hlt, hFz.out, fun e0 => HF0.out (HFF.out.trans e0), rfl, HFF.out⟩⟩
    · obtain rfl : m = k := by omega
      have HFZ := Lib.hid hFz.out
      have HZP := Lib.hid (HZP.out HFZ.out)
      clear hFz
      go_wp2_with fail
      refine (HCH.out _).mono ?_
      rintro e8 w8 ⟨rfl, hb8⟩
      have HB8 := Lib.hid (HBw.out.trans (hb8.mono HBw.out.size))
      have hz8 := hb8.size
      clear hb8 q0 q1 q2 q3 l0 q0c q1c q2c q3c l0c hBr
      go_wp2_with fail
      generalize hW : w8.alloc _ = w9
      have hb9 : Below w8.heap.size w8 w9 := by rw [← hW]; (repeat' (first | (with_reducible exact Below.refl _ _) | (with_reducible assumption) | (with_reducible refine Below.drewN ?_ _) | (with_reducible refine Below.alloc ?_ ?_ _) | (with_reducible refine Below.drew ?_) | (with_reducible refine Below.setCell ?_ ?_ _) | (with_reducible refine Below.step (by assumption) ?_ ?_) | (with_reducible exact And.left (by assumption)) | go_size))
      have x0 : w9.cell? ⟨w8.heap.size, 0, none⟩ = some (.slice a n c) := by { rw [← hW]; clear hW; go_simp }
      have x1 : w9.cell? ⟨w8.heap.size, 1, none⟩ = some (.slice a1 n c1) := by { rw [← hW]; clear hW; go_simp }
      have x2 : w9.cell? ⟨w8.heap.size, 2, none⟩ = some (.bool g) := by { rw [← hW]; clear hW; go_simp }
      have lx : w8.heap.size < w9.heap.size := by { rw [← hW]; simp }
      have HB9 := Lib.hid (HB8.out.trans (hb9.mono HB8.out.size))
      clear hW hb9
      generalize w8.heap.size = X10 at *
      go_loopw [45] (fun i wr => ∃ k : Nat, i = .int .i64 k ∧ k ≤ m ∧ Hid (∀ i, i < k → hold s e u g n i = true) ∧ Hid (Below w9.heap.size w9 wr)) (fun i _ => m - (intOf i).toNat)
      case atStart => exact ⟨0, rfl, Nat.zero_le _, Lib.hid (fun i hi => by omega), Lib.hid (Below.refl _ _)⟩
      case round =>
        obtain ⟨k, rfl, hk2, hHo, hBr⟩ := hrel
        have hbr := hBr.out
        have hzr := hbr.size
        have x0' : wr.cell? ⟨X10, 0, none⟩ = some (.slice a n c) := by { rw [cellB hbr _ _ (by first | (simp; done) | (simp; omega) | omega)]; all_goals (first | assumption | go_simp) }; have x1' : wr.cell? ⟨X10, 1, none⟩ = some (.slice a1 n c1) := by { rw [cellB hbr _ _ (by first | (simp; done) | (simp; omega) | omega)]; all_goals (first | assumption | go_simp) }; have x2' : wr.cell? ⟨X10, 2, none⟩ = some (.bool g) := by { rw [cellB hbr _ _ (by first | (simp; done) | (simp; omega) | omega)]; all_goals (first | assumption | go_simp) }; have lx' : X10 < wr.heap.size := by { omega }
        have HBw := Lib.hid (HB9.out.trans (hbr.mono HB9.out.size))
        clear hbr x0 x1 x2 lx
        rcases Nat.lt_or_ge k m with hlt | hge
        · have i1 : (k : Int) < (m : Int) := by omega
          obtain ⟨H, hH⟩ : ∃ H, H = hold s e u g n k := ⟨_, rfl⟩
          have hcall : ∀ (w' : World), Below w.heap.size w w' → Calls Tryz.prog 55 #[.agg #[.slice a n c, .slice a1 n c1, .bool g], .slice (some ⟨b, o, none⟩) m c3, .int .i64 (k : Int)] w' fun e' w'' => e' = .returned (.bool H) ∧ Below w'.heap.size w' w'' := by
            intro w' hw'
            rw [hH]
            rcases k with _ | k
            · rw [show ((0 : Nat) : Int) = 0 from rfl]
              exact HZ0.out w' hw'
            · rw [show ((k + 1 : Nat) : Int) = (k : Int) + 1 by omega]
              exact HZP.out k (by have := HM.out; omega) w' hw'
          have HCA := Lib.hid hcall
          have HHK := Lib.hid hH
          clear hH hcall
          go_wp2_with fail
          refine (HCA.out _ HBw.out).mono ?_
          rintro e10 wa ⟨rfl, hba⟩
          have HBa := Lib.hid (hBr.out.trans (hba.mono hzr))
          have HBz := Lib.hid (HBw.out.trans (hba.mono HBw.out.size))
          clear hba
          cases H
          · go_wp2
            go_ret2
            exact ⟨HBz.out, _, _, rfl, .inr (.inl ⟨HFZ.out, k, hlt, hHo.out, HHK.out.symm, rfl, rfl⟩)⟩
          · go_wp2
            go_roundw
            case rel => exact ⟨k + 1, by go_num, by omega, Lib.hid (fun i hi => by
              rcases Nat.lt_or_ge i k with h | h
              · exact hHo.out i h
              · rw [show i = k by omega]; exact HHK.out.symm), HBa⟩
            case measure => simp [intOf]; omega
        · obtain rfl : m = k := by omega
          go_wp2
          go_ret2
          exact ⟨HBw.out, _, _, rfl, .inr (.inr ⟨HFZ.out, hHo.out, rfl, rfl⟩)⟩
end Go.Proofs.YtbjgklifmillgaaGreat
