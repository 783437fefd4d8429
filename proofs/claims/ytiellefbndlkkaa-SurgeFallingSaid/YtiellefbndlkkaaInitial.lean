/- The initial distribution of a ladder. -/
import Derived.Test.YtiellefbndlkkaaFrac
import Derived.Test.YtiellefbndlkkaaInit
namespace Go.Proofs.Ytiellefbndlkkaa
open Go.RowKit
set_option linter.unusedVariables false

theorem ladErr_zero {s e t : List Int} (h : ladErr s e t = 0) : 0 < s.length ∧ e.length = s.length ∧ t.length = s.length ∧ s.length ≤ 6 ∧ (∀ x ∈ s, 1 ≤ x ∧ x ≤ 100) ∧ (∀ x ∈ e, 0 ≤ x ∧ x ≤ 100) ∧ (∀ x ∈ t, 1 ≤ x ∧ x ≤ 1000) := by
  unfold ladErr at h
  by_cases h1 : 0 < s.length ∧ e.length = s.length ∧ t.length = s.length
  · rw [if_pos h1] at h
    by_cases h2 : s.length ≤ 6
    · rw [if_pos h2] at h
      have h3 := unl_zero (by omega) h
      obtain ⟨h0, he, ht⟩ := h1
      have key : ∀ i (hi : i < s.length), ok3 (s[i], e[i], t[i]) = true := by
        intro i hi
        unfold ladAll at h3
        simp only [List.drop_zero] at h3
        rw [List.all_eq_true] at h3
        refine h3 _ ?_
        rw [List.mem_iff_getElem]
        refine ⟨i, by simp; omega, by simp⟩
      refine ⟨h0, he, ht, h2, ?_, ?_, ?_⟩
      · intro x hx
        obtain ⟨i, hi, rfl⟩ := List.mem_iff_getElem.1 hx
        have := key i hi
        simp only [ok3, Bool.and_eq_true, wi_iff] at this
        exact this.1.1
      · intro x hx
        obtain ⟨i, hi, rfl⟩ := List.mem_iff_getElem.1 hx
        have := key i (by omega)
        simp only [ok3, Bool.and_eq_true, wi_iff] at this
        exact this.1.2
      · intro x hx
        obtain ⟨i, hi, rfl⟩ := List.mem_iff_getElem.1 hx
        have := key i (by omega)
        simp only [ok3, Bool.and_eq_true, wi_iff] at this
        exact this.2
    · rw [if_neg h2] at h; omega
  · rw [if_neg h1] at h; omega

/-- Fractions handed out, or ErrLarge. -/
def FrPost (l : List (Int × Int)) (n : Nat) (e' : Ending) (w' : World) : Prop :=
  (l.any (fun f => !smallF f) = true ∧ e' = .returned (.tuple #[.slice none 0 0, .int .i64 8])) ∨
  (l.any (fun f => !smallF f) = false ∧ ∃ a' c', e' = .returned (.tuple #[.slice a' n c', .int .i64 0]) ∧ PairsR w' a' n l)
/-- The initial voltages as fractions. -/
def initOf (s e : List Int) (n L : Nat) : List (Int × Int) := (numsOf s e n L).map (low · (dd s e L L))

set_option maxRecDepth 100000 in
theorem initialOf_bad (s e t : List Int) (a a1 a2 : Option Addr) (n c n1 c1 n2 c2 : Nat) (g : Bool) (w : World) (hs : IntsR w a n s) (he : IntsR w a1 n1 e) (ht : IntsR w a2 n2 t) (h : ladErr s e t ≠ 0) :
    Calls Try.prog 33 #[.agg #[.slice a n c, .slice a1 n1 c1, .slice a2 n2 c2, .bool g]] w fun e' w' => e' = .returned (.tuple #[.slice none 0 0, .int .i64 (ladErr s e t)]) ∧ Below w.heap.size w w' := by
  have HS := Lib.hid (fun (w' : World) (hb' : Below w.heap.size w w') => checkLadder_any s e t a a1 a2 n c n1 c1 n2 c2 g w' (hs.below hb') (he.below hb') (ht.below hb'))
  clear hs he ht
  generalize ladErr s e t = el at HS h
  have h1' : (el != 0) = true := by simpa using h
  clear h
  go_enter Try.func33, Try.ntmps33
  go_wp2_with fail
  refine (HS.out _ (by (repeat' (first | (with_reducible exact Below.refl _ _) | (with_reducible assumption) | (with_reducible refine Below.drewN ?_ _) | (with_reducible refine Below.alloc ?_ ?_ _) | (with_reducible refine Below.drew ?_) | (with_reducible refine Below.setCell ?_ ?_ _) | (with_reducible refine Below.step (by assumption) ?_ ?_) | (with_reducible exact And.left (by assumption)) | go_size)))).mono ?_
  rintro e5 w5 ⟨rfl, hb5⟩
  have hz5 := hb5.size
  go_wp2
  go_ret2
  exact ⟨rfl, by (repeat' (first | (with_reducible exact Below.refl _ _) | (with_reducible assumption) | (with_reducible refine Below.drewN ?_ _) | (with_reducible refine Below.alloc ?_ ?_ _) | (with_reducible refine Below.drew ?_) | (with_reducible refine Below.setCell ?_ ?_ _) | (with_reducible refine Below.step (by assumption) ?_ ?_) | (with_reducible exact And.left (by assumption)) | go_size))⟩
set_option maxHeartbeats 1000000 in
set_option maxRecDepth 100000 in
theorem initialOf_ok (s e t : List Int) (a a1 a2 : Option Addr) (n c n1 c1 n2 c2 L : Nat) (g : Bool) (w : World) (hs : IntsR w a n s) (he : IntsR w a1 n1 e) (ht : IntsR w a2 n2 t) (h : ladErr s e t = 0) (hL : lastOf n g = L) :
    Calls Try.prog 33 #[.agg #[.slice a n c, .slice a1 n1 c1, .slice a2 n2 c2, .bool g]] w fun e' w' => Below w.heap.size w w' ∧ FrPost (initOf s e n L) (n + 1) e' w' := by
  obtain ⟨h0, hel, htl, h6, bs, be, _⟩ := ladErr_zero h
  have HS := Lib.hid (fun (w' : World) (hb' : Below w.heap.size w w') => checkLadder_any s e t a a1 a2 n c n1 c1 n2 c2 g w' (hs.below hb') (he.below hb') (ht.below hb'))
  rw [h] at HS
  have hsl := hs.len
  rw [hsl] at h0 h6 hel htl
  rw [he.len] at hel
  rw [ht.len] at htl
  obtain rfl : n = n1 := hel.symm
  obtain rfl : n = n2 := htl.symm
  have hLb : L ≤ n ∧ n ≤ L + 1 := by
    unfold lastOf at hL
    split at hL <;> omega
  have HC := Lib.hid (fun (w' : World) => chainOf_any a a1 a2 n c n c1 n c2 g w')
  have HI := Lib.hid (fun (w' : World) (hb' : Below w.heap.size w w') => cinit_main s e a a1 n c n c1 L g w' (hs.below hb') (he.below hb') rfl h0 h6 hL hLb.1 hLb.2 (fun x hx => by have := bs x hx; omega) be)
  have hdp := dd_pos s e L bs be (by omega) L (Nat.le_refl _)
  have hdb := (dd_bd6 s e L (fun x hx => by have := bs x hx; omega) be L (by omega)).2
  have hnb := nums_bd s e n L bs be (by omega)
  have HF := Lib.hid (fun (w' : World) (a' : Option Addr) (c' : Nat) (hl : IntsR w' a' (n + 1) (numsOf s e n L)) => fractions_any (numsOf s e n L) (dd s e L L) a' (n + 1) c' w' hl (by omega) (fun x hx => by have := hnb x hx; omega) hdp (by omega))
  clear hs he ht h bs be hdp hdb hnb hsl hL
  go_enter Try.func33, Try.ntmps33
  go_wp2_with fail
  refine (HS.out _ (by (repeat' (first | (with_reducible exact Below.refl _ _) | (with_reducible assumption) | (with_reducible refine Below.drewN ?_ _) | (with_reducible refine Below.alloc ?_ ?_ _) | (with_reducible refine Below.drew ?_) | (with_reducible refine Below.setCell ?_ ?_ _) | (with_reducible refine Below.step (by assumption) ?_ ?_) | (with_reducible exact And.left (by assumption)) | go_size)))).mono ?_
  rintro e5 w5 ⟨rfl, hb5⟩
  have hz5 := hb5.size
  simp only [World.size_alloc] at hz5
  have q0 : w5.cell? ⟨w.heap.size, 0, none⟩ = some (.slice a n c) := by { rw [cellB hb5 _ _ (by first | (simp; done) | (simp; omega) | omega)]; all_goals (first | assumption | go_simp) }; have q1 : w5.cell? ⟨w.heap.size, 1, none⟩ = some (.slice a1 n c1) := by { rw [cellB hb5 _ _ (by first | (simp; done) | (simp; omega) | omega)]; all_goals (first | assumption | go_simp) }; have q2 : w5.cell? ⟨w.heap.size, 2, none⟩ = some (.slice a2 n c2) := by { rw [cellB hb5 _ _ (by first | (simp; done) | (simp; omega) | omega)]; all_goals (first | assumption | go_simp) }; have q3 : w5.cell? ⟨w.heap.size, 3, none⟩ = some (.bool g) := by { rw [cellB hb5 _ _ (by first | (simp; done) | (simp; omega) | omega)]; all_goals (first | assumption | go_simp) }; have l0 : w.heap.size < w5.heap.size := by { omega }
  have HB5 := Lib.hid (show Below w.heap.size w w5 by (repeat' (first | (with_reducible exact Below.refl _ _) | (with_reducible assumption) | (with_reducible refine Below.drewN ?_ _) | (with_reducible refine Below.alloc ?_ ?_ _) | (with_reducible refine Below.drew ?_) | (with_reducible refine Below.setCell ?_ ?_ _) | (with_reducible refine Below.step (by assumption) ?_ ?_) | (with_reducible exact And.left (by assumption)) | go_size)))
  clear hb5 HS
  go_wp2_with fail
  refine (HC.out _).mono ?_
  rintro e6 w6 ⟨rfl, hb6⟩
  have HB6 := Lib.hid (HB5.out.trans (hb6.mono HB5.out.size))
  clear hb6 HC
  go_wp2_with fail
  refine (HI.out _ HB6.out).mono ?_
  rintro e7 w7 ⟨g7, rfl, hb7, hi7⟩
  have hb8 := HB6.out.trans (hb7.mono HB6.out.size)
  have HB7 := Lib.hid hb8
  have HFF := Lib.hid (HF.out w7 (some ⟨g7, 0, none⟩) (n + 1) hi7)
  obtain ⟨NN, hNN⟩ : ∃ NN, NN = (numsOf s e n L).map (low · (dd s e L L)) := ⟨_, rfl⟩
  rw [← hNN] at HFF
  have HNN := Lib.hid hNN
  generalize dd s e L L = den at HFF
  clear hNN hb7 hb8 HI HF hi7
  go_wp2_with fail
  refine HFF.out.mono ?_
  rintro e8 w8 ⟨hb8, hp⟩
  have HB8 := Lib.hid (HB7.out.trans (hb8.mono HB7.out.size))
  clear hb8
  rcases hp with ⟨hp1, rfl⟩ | ⟨hp1, a8, c8, rfl, hp2⟩
  · have HP := Lib.hid hp1
    clear hp1
    go_wp2
    go_ret2
    refine ⟨HB8.out, .inl ⟨?_, rfl⟩⟩
    unfold initOf; rw [← HNN.out]; exact HP.out
  · have HP := Lib.hid (And.intro hp1 hp2)
    clear hp1 hp2
    go_wp2
    go_ret2
    refine ⟨HB8.out, .inr ⟨?_, a8, c8, rfl, ?_⟩⟩
    · unfold initOf; rw [← HNN.out]; exact HP.out.1
    · unfold initOf; rw [← HNN.out]; exact HP.out.2
end Go.Proofs.Ytiellefbndlkkaa
