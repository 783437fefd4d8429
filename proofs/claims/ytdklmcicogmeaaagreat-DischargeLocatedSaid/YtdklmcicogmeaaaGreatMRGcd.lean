import Derived.Test.YtdklmcicogmeaaaGreatMDAnsP
import Derived.Test.YtdklmcicogmeaaaGreatMDSub
import Derived.Test.YtdklmcicogmeaaaGreatMDSubs
import Derived.Test.YtdklmcicogmeaaaGreatMDif
import Derived.Test.YtdklmcicogmeaaaGreatMPlainInit
/- The reference's divisors and fractions in lowest terms. -/
namespace Go.Proofs.YtdklmcicogmeaaaGreat
open Go.RowKit
set_option linter.unusedVariables false

theorem b_gcd_gen (a b : Int) (w : World) (ha0 : -9223372036854775808 ≤ a) (ha1 : a ≤ 9223372036854775807) (hb0 : 0 < b) (hb1 : b ≤ 9223372036854775807) :
    Calls Tryz.prog 119 #[.int .i64 a, .int .i64 b] w fun e' w' => e' = .returned (.int .i64 (gc a b)) ∧ ∃ n, w' = w.drewN n := by
  go_enter Tryz.func119, Tryz.ntmps119
  go_wp2
  go_loopw [0, 1] (fun x y wr => ∃ c d : Int, x = .int .i64 c ∧ y = .int .i64 d ∧ gc c d = gc a b ∧ -9223372036854775808 ≤ c ∧ c ≤ 9223372036854775807 ∧ -9223372036854775807 ≤ d ∧ d ≤ 9223372036854775807 ∧ (c = -9223372036854775808 → 0 < d) ∧ ∃ n, wr = w.drewN n) (fun _ y _ => (intOf y).natAbs)
  case atStart => exact ⟨a, b, rfl, rfl, rfl, ha0, ha1, by omega, hb1, fun _ => hb0, 0, rfl⟩
  case round =>
    obtain ⟨c, d, rfl, rfl, hg, hc0, hc1, hd0, hd1, hcd, n, rfl⟩ := hrel
    have HG := Lib.hid hg; clear hg
    by_cases hd : d = 0
    · subst hd
      have hc2 : -9223372036854775807 ≤ c := by
        by_cases h : c = -9223372036854775808
        · have := hcd h; omega
        · omega
      clear hcd
      go_wp2_with (go_at_call 13; refine (bsize_any _ _ (by omega) (by omega)).mono ?_; rintro e w' ⟨rfl, rfl⟩)
      go_ret
      exact ⟨ret_int (by rw [← HG.out, gc_zero]), n, rfl⟩
    · have hd' : (d == 0) = false := by simpa using hd
      have hd'' : (d != 0) = true := by simpa using hd
      clear hcd
      go_wp2
      go_region
      go_wp2
      have hlt := tmod_lt c d hd
      have hg := gcd_tmod c d
      have hbd := hlt
      go_roundw
      case rel => exact ⟨d, c.tmod d, rfl, rfl, by rw [← HG.out]; unfold gc; rw [hg], by omega, by omega, by omega, by omega, fun h => by omega, n + 1, rfl⟩
      case measure => simpa [intOf] using hlt
theorem b_isLowest_any (a b : Int) (w : World) (ha0 : -9223372036854775808 ≤ a) (ha1 : a ≤ 9223372036854775807) (hb1 : b ≤ 9223372036854775807) :
    Calls Tryz.prog 80 #[.agg #[.int .i64 a, .int .i64 b]] w fun e' w' => e' = .returned (.bool (isLow a b)) ∧ Below w.heap.size w w' := by
  unfold isLow
  by_cases h : b > 0
  · have hb : decide (b > 0) = true := by simpa using h
    rw [hb, Bool.true_and]
    obtain ⟨g, hg⟩ : ∃ g, g = gc a b := ⟨_, rfl⟩
    have HG := Lib.hid (fun w' => b_gcd_gen a b w' ha0 ha1 h hb1)
    rw [← hg] at HG ⊢
    clear hg h
    go_enter Tryz.func80, Tryz.ntmps80
    go_wp2_with fail
    refine (HG.out _).mono ?_
    rintro e5 w5 ⟨rfl, k, rfl⟩
    go_wp2
    go_ret
    exact ⟨rfl, by (repeat' (first | (with_reducible exact Below.refl _ _) | (with_reducible assumption) | (with_reducible refine Below.drewN ?_ _) | (with_reducible refine Below.alloc ?_ ?_ _) | (with_reducible refine Below.drew ?_) | (with_reducible refine Below.setCell ?_ ?_ _) | (with_reducible refine Below.step (by assumption) ?_ ?_) | (with_reducible exact And.left (by assumption)) | go_size))⟩
  · have hb : decide (b > 0) = false := by simpa using h
    rw [hb, Bool.false_and]
    clear h
    go_enter Tryz.func80, Tryz.ntmps80
    go_wp2
    go_ret
    exact ⟨rfl, by (repeat' (first | (with_reducible exact Below.refl _ _) | (with_reducible assumption) | (with_reducible refine Below.drewN ?_ _) | (with_reducible refine Below.alloc ?_ ?_ _) | (with_reducible refine Below.drew ?_) | (with_reducible refine Below.setCell ?_ ?_ _) | (with_reducible refine Below.step (by assumption) ?_ ?_) | (with_reducible exact And.left (by assumption)) | go_size))⟩
end Go.Proofs.YtdklmcicogmeaaaGreat

/- The reference of differences. -/
namespace Go.Proofs.YtdklmcicogmeaaaGreat
open Go.RowKit
set_option linter.unusedVariables false

theorem respsE_cases (l : List (Int × Int)) : respsE l = if 8 < (l.length : Int) then 8 else if l.any (fun p => !gB p) = true then 2 else 0 := by
  unfold respsE
  by_cases h : 8 < (l.length : Int)
  · have : ¬ (l.length : Int) ≤ 8 := by omega
    rw [if_pos h, decide_eq_false this]; rfl
  · have : (l.length : Int) ≤ 8 := by omega
    rw [if_neg h, decide_eq_true this]
    cases l.any (fun p => !gB p) <;> rfl
theorem any_getD {l : List (Int × Int)} {p : Int × Int → Bool} {j : Nat} (h : j < l.length) (hp : p (l.getD j (0, 0)) = true) : l.any p = true := List.any_eq_true.2 ⟨_, getD_pair h, hp⟩
theorem any_none {l : List (Int × Int)} {p : Int × Int → Bool} (h : ∀ j, j < l.length → p (l.getD j (0, 0)) = false) : l.any p = false := by
  rw [List.any_eq_false]
  intro x hx
  obtain ⟨i, hi⟩ := List.mem_iff_getElem?.1 hx
  have h1 := h i (List.getElem?_eq_some_iff.1 hi).1
  rw [List.getD_eq_getElem?_getD, hi] at h1
  simpa using h1
set_option maxRecDepth 100000 in
theorem rResponsesErr_any (l : List (Int × Int)) (a : Option Addr) (n c : Nat) (w : World) (hl : PairsR w a n l) : Calls Tryz.prog 40 #[.slice a n c] w fun e' w' => e' = .returned (.int .i64 (respsE l)) ∧ Below w.heap.size w w' := by
  have hn := hl.small
  have HL := Lib.hid hl
  have HLN := Lib.hid hl.len
  have hE := respsE_cases l
  rw [hl.len] at hE
  obtain ⟨E, hEE⟩ : ∃ E, E = respsE l := ⟨_, rfl⟩
  rw [← hEE] at hE ⊢
  clear hl hEE
  by_cases h8 : 8 < (n : Int)
  · rw [if_pos h8] at hE
    subst hE
    go_enter Tryz.func40, Tryz.ntmps40
    go_wp2
    go_ret
    exact ⟨rfl, by (repeat' (first | (with_reducible exact Below.refl _ _) | (with_reducible assumption) | (with_reducible refine Below.drewN ?_ _) | (with_reducible refine Below.alloc ?_ ?_ _) | (with_reducible refine Below.drew ?_) | (with_reducible refine Below.setCell ?_ ?_ _) | (with_reducible refine Below.step (by assumption) ?_ ?_) | (with_reducible exact And.left (by assumption)) | go_size))⟩
  · rw [if_neg h8] at hE
    have HE := Lib.hid hE
    clear hE
    go_enter Tryz.func40, Tryz.ntmps40
    go_wp2_with fail
    go_loopw [3] (fun i wr => ∃ k : Nat, i = .int .i64 k ∧ k ≤ n ∧ Hid (∀ j, j < k → gB (l.getD j (0, 0)) = true) ∧ wr = w) (fun i _ => n - (intOf i).toNat)
    case atStart => exact ⟨0, rfl, Nat.zero_le _, Lib.hid (fun j h => absurd h (by omega)), rfl⟩
    case round =>
      obtain ⟨k, rfl, hk, hG, rfl⟩ := hrel
      have i0 : (0 : Int) ≤ (k : Int) := by omega
      rcases Nat.lt_or_ge k n with hlt | hge
      · have i1 : (k : Int) < (n : Int) := by omega
        obtain ⟨b, o, rfl, hb, hc⟩ := HL.out.addr (by omega)
        obtain ⟨p0, p1⟩ := hc k hlt
        have HX := Lib.hid (show gB (l.getD k (0, 0)) = (wi (l.getD k (0, 0)).1 (-100000000) 100000000 && wi (l.getD k (0, 0)).2 (-100000000) 100000000) by rfl)
        generalize hx : l.getD k (0, 0) = x at *
        have HXD := Lib.hid hx
        obtain ⟨x1, x2⟩ := x
        have HB1 := Lib.hid (fun w' => bwithin_any x1 (-100000000) 100000000 w')
        have HB2 := Lib.hid (fun w' => bwithin_any x2 (-100000000) 100000000 w')
        simp only at p0 p1 HX
        generalize wi x1 (-100000000) 100000000 = b1 at *
        generalize wi x2 (-100000000) 100000000 = b2 at *
        clear hc hx
        have hbad : ∀ (h : gB (x1, x2) = false), E = 2 := fun h => by
          rw [HE.out, if_pos (any_getD (p := fun p => !gB p) (j := k) (by rw [HLN.out]; exact hlt) (by rw [HXD.out, h]; rfl))]
        have HBAD := Lib.hid hbad
        clear hbad
        go_wp2_with fail
        refine (HB1.out _).mono ?_
        rintro e6 w6 ⟨rfl, rfl⟩
        cases b1
        · have hE := HBAD.out (by rw [HX.out]; rfl)
          subst hE
          clear HE HBAD
          go_wp2
          go_ret
          exact ⟨rfl, by (repeat' (first | (with_reducible exact Below.refl _ _) | (with_reducible assumption) | (with_reducible refine Below.drewN ?_ _) | (with_reducible refine Below.alloc ?_ ?_ _) | (with_reducible refine Below.drew ?_) | (with_reducible refine Below.setCell ?_ ?_ _) | (with_reducible refine Below.step (by assumption) ?_ ?_) | (with_reducible exact And.left (by assumption)) | go_size))⟩
        go_wp2_with fail
        refine (HB2.out _).mono ?_
        rintro e7 w7 ⟨rfl, rfl⟩
        cases b2
        · have hE := HBAD.out (by rw [HX.out]; rfl)
          subst hE
          clear HE HBAD
          go_wp2
          go_ret
          exact ⟨rfl, by (repeat' (first | (with_reducible exact Below.refl _ _) | (with_reducible assumption) | (with_reducible refine Below.drewN ?_ _) | (with_reducible refine Below.alloc ?_ ?_ _) | (with_reducible refine Below.drew ?_) | (with_reducible refine Below.setCell ?_ ?_ _) | (with_reducible refine Below.step (by assumption) ?_ ?_) | (with_reducible exact And.left (by assumption)) | go_size))⟩
        have HG2 := Lib.hid (show ∀ j, j < k + 1 → gB (l.getD j (0, 0)) = true from fun j hj => by
          by_cases he : j = k
          · subst he; rw [HXD.out, HX.out]; rfl
          · exact hG.out j (by omega))
        clear hG HX HXD HBAD
        go_wp2
        go_roundw
        case rel => exact ⟨k + 1, by go_num, by omega, HG2, by first | rfl | trivial⟩
        case measure => simp [intOf]; omega
      · obtain rfl : k = n := by omega
        have hE := HE.out
        rw [if_neg (by rw [any_none (fun j hj => by rw [hG.out j (by rw [HLN.out] at hj; exact hj)]; rfl)]; decide)] at hE
        subst hE
        clear HE hG
        go_wp2
        go_ret
        exact ⟨rfl, by (repeat' (first | (with_reducible exact Below.refl _ _) | (with_reducible assumption) | (with_reducible refine Below.drewN ?_ _) | (with_reducible refine Below.alloc ?_ ?_ _) | (with_reducible refine Below.drew ?_) | (with_reducible refine Below.setCell ?_ ?_ _) | (with_reducible refine Below.step (by assumption) ?_ ?_) | (with_reducible exact And.left (by assumption)) | go_size))⟩
set_option maxRecDepth 100000 in
theorem gNorm_any (x y : Int) (w : World) (h : gB (x, y) = true) : Calls Tryz.prog 47 #[.agg #[.int .i64 x, .int .i64 y]] w fun e' w' => e' = .returned (.int .i64 (nrm (x, y))) ∧ Below w.heap.size w w' := by
  unfold gB at h
  rw [Bool.and_eq_true, wi_iff, wi_iff] at h
  obtain ⟨⟨h1, h2⟩, h3, h4⟩ := h
  simp only at h1 h2 h3 h4
  have a1 := mulb (a := x) (b := x) 100000000 100000000 10000000000000000 h1 h2 h1 h2 (by omega)
  have a2 := mulb (a := y) (b := y) 100000000 100000000 10000000000000000 h3 h4 h3 h4 (by omega)
  have w1 : IntKind.i64.wrap (x * x) = x * x := by rw [IntKind.wrap_i64]; omega
  have w2 : IntKind.i64.wrap (y * y) = y * y := by rw [IntKind.wrap_i64]; omega
  have w3 : IntKind.i64.wrap (x * x + y * y) = x * x + y * y := by rw [IntKind.wrap_i64]; omega
  go_enter Tryz.func47, Tryz.ntmps47
  go_wp2
  go_ret
  exact ⟨ret_int rfl, by (repeat' (first | (with_reducible exact Below.refl _ _) | (with_reducible assumption) | (with_reducible refine Below.drewN ?_ _) | (with_reducible refine Below.alloc ?_ ?_ _) | (with_reducible refine Below.drew ?_) | (with_reducible refine Below.setCell ?_ ?_ _) | (with_reducible refine Below.step (by assumption) ?_ ?_) | (with_reducible exact And.left (by assumption)) | go_size))⟩
set_option maxRecDepth 100000 in
theorem copyGausses_any (l : List (Int × Int)) (a : Option Addr) (n c : Nat) (w : World) (h : PairsR w a n l) (hn : n ≤ 100000) :
    Calls Tryz.prog 42 #[.slice a n c] w fun e' w' => ∃ a' c', e' = .returned (.slice a' n c') ∧ Below w.heap.size w w' ∧ PairsR w' a' n l := by
  have H := Lib.hid h
  clear h
  go_enter Tryz.func42, Tryz.ntmps42
  go_wp2_with (at_builtin; refine wpList_append_sl _ rfl _ _ 86 rfl w.heap.size 107 _ 2 16 Tryz.underlying86 infoGauss rfl (by omega) _ 0 _ rfl (World.ownsRow_made w #[] 0 (by omega) (by simp [maxLen]) rfl) _ n c (pcells l) rfl (H.out.below (by (repeat' (first | (with_reducible exact Below.refl _ _) | (with_reducible assumption) | (with_reducible refine Below.drewN ?_ _) | (with_reducible refine Below.alloc ?_ ?_ _) | (with_reducible refine Below.drew ?_) | (with_reducible refine Below.setCell ?_ ?_ _) | (with_reducible refine Below.step (by assumption) ?_ ?_) | (with_reducible exact And.left (by assumption)) | go_size)))) (pcells_one l) (by omega) (by omega) (by simp) ?_)
  intro v2 w2 hown2 _ hb2
  obtain ⟨a', c', rfl, _, _⟩ := owns_slice hown2
  have HO := Lib.hid hown2
  have HB := Lib.hid hb2
  clear hown2 hb2
  go_wp2
  go_ret
  exact ⟨a', c', rfl, Below.trans (by (repeat' (first | (with_reducible exact Below.refl _ _) | (with_reducible assumption) | (with_reducible refine Below.drewN ?_ _) | (with_reducible refine Below.alloc ?_ ?_ _) | (with_reducible refine Below.drew ?_) | (with_reducible refine Below.setCell ?_ ?_ _) | (with_reducible refine Below.step (by assumption) ?_ ?_) | (with_reducible exact And.left (by assumption)) | go_size))) HB.out, SlR.of_owns (by simpa using HO.out)⟩
end Go.Proofs.YtdklmcicogmeaaaGreat
