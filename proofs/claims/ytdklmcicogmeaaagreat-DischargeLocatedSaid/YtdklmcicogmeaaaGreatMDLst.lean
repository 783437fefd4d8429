import Derived.Lib.ConvBytes
import Derived.Test.YtdklmcicogmeaaaGreatMDRec
import Derived.Test.YtdklmcicogmeaaaGreatMDSub
import Derived.Test.YtdklmcicogmeaaaGreatMDSubs
import Derived.Test.YtdklmcicogmeaaaGreatMPlain0
/- A row of rows of integers in memory; base.Lists. -/
namespace Go.Proofs.YtdklmcicogmeaaaGreat
open Go.RowKit
set_option linter.unusedVariables false

/-- A row of rows of integers. -/
def RowsI (w : World) (a : Option Addr) (n : Nat) (LL : List (List Nat)) : Prop :=
  ∃ vs, SlR w a n 1 vs ∧ LL.length = n ∧ ∀ (i : Nat) (S : List Nat), LL[i]? = some S → ∃ b m c, (vs : List Value)[i]? = some (Value.slice b m c) ∧ IntsR w b m (nats S)
theorem RowsI.below {w w' : World} {a : Option Addr} {n : Nat} {LL : List (List Nat)} (h : RowsI w a n LL) (hb : Below w.heap.size w w') : RowsI w' a n LL := by
  obtain ⟨vs, h1, h2, h3⟩ := h
  refine ⟨vs, h1.below hb, h2, fun i S hS => ?_⟩
  obtain ⟨b, m, c, h4, h5⟩ := h3 i S hS
  exact ⟨b, m, c, h4, h5.below hb⟩
theorem RowsI.nil (w : World) (a : Option Addr) : RowsI w a 0 [] := ⟨[], SlR.nil w a 1, rfl, fun i S h => by simp at h⟩

theorem nats_inj {a b : List Nat} (h : nats a = nats b) : a = b := by
  unfold nats at h
  have h2 := congrArg (List.map Int.toNat) h
  simpa [Function.comp_def] using h2
theorem RowsI.at {w : World} {a : Option Addr} {n : Nat} {LL : List (List Nat)} (h : RowsI w a n LL) {i : Nat} (hi : i < n) : ∃ b o S p m c, a = some ⟨b, o, none⟩ ∧ LL[i]? = some S ∧ w.cell? ⟨b, o + i, none⟩ = some (.slice p m c) ∧ IntsR w p m (nats S) := by
  obtain ⟨vs, h1, h2, h3⟩ := h
  obtain ⟨b, o, ha, _, hc⟩ := h1.2.2 (by omega)
  obtain ⟨S, hS⟩ : ∃ S, LL[i]? = some S := ⟨_, List.getElem?_eq_getElem (by omega)⟩
  obtain ⟨p, m, c, h4, h5⟩ := h3 i S hS
  exact ⟨b, o, S, p, m, c, ha, hS, hc i _ h4, h5⟩
theorem RowsI.small {w : World} {a : Option Addr} {n : Nat} {LL : List (List Nat)} (h : RowsI w a n LL) : n ≤ 9223372036854775807 := by
  obtain ⟨vs, h1, _⟩ := h
  exact h1.small
theorem RowsI.len {w : World} {a : Option Addr} {n : Nat} {LL : List (List Nat)} (h : RowsI w a n LL) : LL.length = n := by
  obtain ⟨vs, _, h2, _⟩ := h
  exact h2
set_option maxHeartbeats 1000000 in
set_option maxRecDepth 100000 in
theorem lists_any (l1 l2 : List (List Nat)) (a1 a2 : Option Addr) (n1 c1 n2 c2 : Nat) (w : World) (h1 : RowsI w a1 n1 l1) (h2 : RowsI w a2 n2 l2) :
    Calls Tryz.prog 57 #[.slice a1 n1 c1, .slice a2 n2 c2] w fun e' w' => e' = .returned (.bool (decide (l1 = l2))) ∧ ∃ m, w' = w.drewN m := by
  have H1 := Lib.hid h1
  have H2 := Lib.hid h2
  have hn1 := h1.small
  have hn2 := h2.small
  clear h1 h2
  by_cases hne : n1 = n2
  · subst hne
    have hbb : ((n1 : Int) != (n1 : Int)) = false := by simp
    go_enter Tryz.func57, Tryz.ntmps57
    go_wp2
    go_loopw [5] (fun i wr => ∃ k : Nat, i = .int .i64 k ∧ k ≤ n1 ∧ Hid (decide (l1.drop k = l2.drop k) = decide (l1 = l2)) ∧ ∃ m, wr = w.drewN m) (fun i _ => n1 - (intOf i).toNat)
    case atStart => exact ⟨0, rfl, Nat.zero_le _, rfl, 0, rfl⟩
    case round =>
      obtain ⟨k, rfl, hk, hF, m, rfl⟩ := hrel
      by_cases hlt : k < n1
      · obtain ⟨b1, o1, S, p1, m1, d1, rfl, hS, hck1, hi1⟩ := H1.out.at hlt
        obtain ⟨b2, o2, T, p2, m2, d2, rfl, hT, hck2, hi2⟩ := H2.out.at hlt
        have hF' := hF.out
        rw [drop_cons' hS, drop_cons' hT] at hF'
        have HF := Lib.hid hF'
        have HI := Lib.hid (fun (w' : World) (hb : Below w.heap.size w w') => ints_any (nats S) (nats T) p1 p2 m1 d1 m2 d2 w' (hi1.below hb) (hi2.below hb))
        have hk0 : (0 : Int) ≤ (k : Int) := by omega
        have hk1 : (k : Int) < (n1 : Int) := by omega
        clear hF' hF hS hT hi1 hi2
        by_cases hxy : nats S = nats T
        · have hd : decide (nats S = nats T) = true := by simp [hxy]
          rw [hd] at HI
          go_wp2_with fail
          refine drew_of_eq 8 (by kernel_rfl) (by kernel_rfl) ?_; simp only [List.take_succ_cons, List.take_zero, List.drop_succ_cons, List.drop_zero]; repeat go_big_quiet_step (fail)
          refine wpQuiet_nil ?_; intro m7
          go_wp2_with fail
          refine (HI.out _ (by (repeat' (first | (with_reducible exact Below.refl _ _) | (with_reducible assumption) | (with_reducible refine Below.drewN ?_ _) | (with_reducible refine Below.alloc ?_ ?_ _) | (with_reducible refine Below.drew ?_) | (with_reducible refine Below.setCell ?_ ?_ _) | (with_reducible refine Below.step (by assumption) ?_ ?_) | (with_reducible exact And.left (by assumption)) | go_size)))).mono ?_
          rintro e8 w8 ⟨rfl, m8, rfl⟩
          go_wp2
          go_roundw
          case rel => exact ⟨k + 1, by go_num, by omega, Lib.hid (by have h := HF.out; rw [nats_inj hxy] at h; simpa using h), _, by first | rfl | exact World.drewN_drewN _ _ _ | simp [World.drewN_drewN]⟩
          case measure => simp [intOf]; omega
        · have hd : decide (nats S = nats T) = false := by simp [hxy]
          rw [hd] at HI
          go_wp2_with fail
          refine drew_of_eq 8 (by kernel_rfl) (by kernel_rfl) ?_; simp only [List.take_succ_cons, List.take_zero, List.drop_succ_cons, List.drop_zero]; repeat go_big_quiet_step (fail)
          refine wpQuiet_nil ?_; intro m7
          go_wp2_with fail
          refine (HI.out _ (by (repeat' (first | (with_reducible exact Below.refl _ _) | (with_reducible assumption) | (with_reducible refine Below.drewN ?_ _) | (with_reducible refine Below.alloc ?_ ?_ _) | (with_reducible refine Below.drew ?_) | (with_reducible refine Below.setCell ?_ ?_ _) | (with_reducible refine Below.step (by assumption) ?_ ?_) | (with_reducible exact And.left (by assumption)) | go_size)))).mono ?_
          rintro e8 w8 ⟨rfl, m8, rfl⟩
          go_wp2
          go_ret
          exact ⟨ret_bool (by rw [← HF.out]; simp; exact fun e => absurd (by rw [e]) hxy), _, by first | rfl | exact World.drewN_drewN _ _ _ | simp [World.drewN_drewN]⟩
      · go_wp2
        go_ret
        exact ⟨ret_bool (by rw [← hF.out, drop_end l1 k (by rw [H1.out.len]; omega), drop_end l2 k (by rw [H2.out.len]; omega)]; rfl), m, rfl⟩
  · have hbb : ((n1 : Int) != (n2 : Int)) = true := by simp; omega
    go_enter Tryz.func57, Tryz.ntmps57
    go_wp2
    go_ret
    refine ⟨ret_bool ?_, 0, rfl⟩
    have : ¬ l1 = l2 := by intro h; apply hne; rw [← H1.out.len, ← H2.out.len, h]
    simp [this]
end Go.Proofs.YtdklmcicogmeaaaGreat

/- Which strings are names, in the program and in the reference. -/
namespace Go.Proofs.YtdklmcicogmeaaaGreat
open Go.RowKit
set_option linter.unusedVariables false

/-- A byte of a string as a number. -/
def byt (s : ByteArray) (i : Nat) : Int := ((s.data.toList.getD i 0).toNat : Int)
theorem byt_bd (s : ByteArray) (i : Nat) : 0 ≤ byt s i ∧ byt s i ≤ 255 := by
  have := (s.data.toList.getD i 0).toNat_lt
  unfold byt; omega
theorem byt_get (s : ByteArray) (i : Nat) (h : i < s.size) : ((s[i]'h).toNat : Int) = byt s i := by
  unfold byt
  have e : s.data.toList.getD i 0 = s[i]'h := by
    have h' : i < s.data.toList.length := by simpa using h
    rw [List.getD_eq_getElem?_getD, List.getElem?_eq_getElem h', Option.getD_some]
    simp [ByteArray.getElem_eq_getElem_data]
  rw [e]
/-- A character of a name at a place. -/
def isLet (x : Int) : Bool := (decide (97 ≤ x) && decide (x ≤ 122)) || (decide (65 ≤ x) && decide (x ≤ 90))
def okCh (x : Int) (i : Nat) : Bool := isLet x || (decide (i ≠ 0) && (decide (x = 45) || (decide (48 ≤ x) && decide (x ≤ 57))))
def nmUpto (s : ByteArray) : Nat → Bool
  | 0 => true
  | k + 1 => nmUpto s k && okCh (byt s k) k
def nameOk (s : ByteArray) : Bool := nmUpto s s.size && wi s.size 1 12
theorem nm_false (s : ByteArray) : ∀ (m k : Nat), nmUpto s k = false → nmUpto s (k + m) = false
  | 0, k, h => h
  | m + 1, k, h => by
    show (nmUpto s (k + m) && _) = false
    rw [nm_false s m k h]; rfl
theorem nm_stop {s : ByteArray} {k : Nat} (hk : k < s.size) (h : okCh (byt s k) k = false) : nameOk s = false := by
  have h1 : nmUpto s (k + 1) = false := by
    show (nmUpto s k && okCh (byt s k) k) = false
    rw [h, Bool.and_false]
  have h2 := nm_false s (s.size - (k + 1)) (k + 1) h1
  rw [show k + 1 + (s.size - (k + 1)) = s.size by omega] at h2
  unfold nameOk; rw [h2]; rfl
/-- The five ranges of characters. -/
theorem ch_cases (x : Int) : (97 ≤ x ∧ x ≤ 122) ∨ (¬ 97 ≤ x ∧ 65 ≤ x ∧ x ≤ 90) ∨ (¬ 97 ≤ x ∧ ¬ 65 ≤ x) ∨ (¬ 97 ≤ x ∧ 65 ≤ x ∧ ¬ x ≤ 90) ∨ (97 ≤ x ∧ ¬ x ≤ 122 ∧ 65 ≤ x ∧ ¬ x ≤ 90) := by omega
theorem ok_let {x : Int} (k : Nat) (h : (97 ≤ x ∧ x ≤ 122) ∨ (65 ≤ x ∧ x ≤ 90)) : okCh x k = true := by
  unfold okCh isLet
  rcases h with ⟨h1, h2⟩ | ⟨h1, h2⟩ <;> simp [h1, h2]
theorem ok_zero {x : Int} (h : ¬ ((97 ≤ x ∧ x ≤ 122) ∨ (65 ≤ x ∧ x ≤ 90))) : okCh x 0 = false := by
  unfold okCh isLet
  simp only [Bool.or_eq_false_iff, Bool.and_eq_false_iff, decide_eq_false_iff_not]
  omega
theorem ok_pos {x : Int} {k : Nat} (hk : k ≠ 0) (h : x = 45 ∨ (48 ≤ x ∧ x ≤ 57)) : okCh x k = true := by
  unfold okCh
  rcases h with h | ⟨h1, h2⟩
  · simp [h, hk]
  · simp [h1, h2, hk]
theorem ok_neg {x : Int} {k : Nat} (h : ¬ ((97 ≤ x ∧ x ≤ 122) ∨ (65 ≤ x ∧ x ≤ 90))) (h1 : x ≠ 45) (h2 : ¬ (48 ≤ x ∧ x ≤ 57)) : okCh x k = false := by
  unfold okCh isLet
  simp only [Bool.or_eq_false_iff, Bool.and_eq_false_iff, decide_eq_false_iff_not]
  omega
set_option maxHeartbeats 1000000 in
set_option maxRecDepth 100000 in
theorem isNameB_any (s : ByteArray) (w : World) (hs : s.size ≤ maxLen) :
    Calls Tryz.prog 79 #[.string s] w fun e' w' => e' = .returned (.bool (nameOk s)) ∧ w = w' := by
  have hsz : s.size ≤ 9223372036854775807 := by unfold maxLen at hs; omega
  clear hs
  go_enter Tryz.func79, Tryz.ntmps79
  rcases Nat.lt_or_ge s.size 1 with h1 | h1
  · obtain ⟨n, hn⟩ : ∃ n, n = s.size := ⟨_, rfl⟩
    have e1 := Lib.hid (show nameOk s = false by
      unfold nameOk
      rw [wi_false.2 (by omega), Bool.and_false])
    have e2 : ((s.size : Int) : Int) < 1 := by omega
    go_wp2
    go_ret
    exact ⟨ret_bool e1.out.symm, rfl⟩
  rcases Nat.lt_or_ge 12 s.size with h2 | h2
  · have e1 := Lib.hid (show nameOk s = false by
      unfold nameOk
      rw [wi_false.2 (by omega), Bool.and_false])
    have e2 : ¬ ((s.size : Int) : Int) < 1 := by omega
    have e3 : 12 < ((s.size : Int) : Int) := by omega
    go_wp2
    go_ret
    exact ⟨ret_bool e1.out.symm, rfl⟩
  have e2 : ¬ ((s.size : Int) : Int) < 1 := by omega
  have e3 : ¬ 12 < ((s.size : Int) : Int) := by omega
  go_wp2
  go_loop [3] (fun i => ∃ k : Nat, i = .int .i64 k ∧ k ≤ s.size ∧ Hid (nmUpto s k = true)) (fun i => s.size - (intOf i).toNat)
  case atStart => exact ⟨0, rfl, Nat.zero_le _, Lib.hid rfl⟩
  case round =>
    obtain ⟨k, rfl, hk, HN⟩ := hrel
    have k0 : (0 : Int) ≤ (k : Int) := by omega
    rcases Nat.lt_or_ge k s.size with hlt | hge
    · have hb := byt_bd s k
      have hg := byt_get s k hlt
      have k1 : (k : Int) < (s.size : Int) := by omega
      obtain ⟨x, hx⟩ : ∃ x, x = byt s k := ⟨_, rfl⟩
      rw [← hx] at hg hb
      have HX := Lib.hid hx
      clear hx
      rcases ch_cases x with ⟨h1, h2⟩ | ⟨h1, h2, h3⟩ | ⟨h1, h2⟩ | ⟨h1, h2, h3⟩ | ⟨h1, h2, h3, h4⟩
      · have HOK := Lib.hid (show okCh (byt s k) k = true by rw [← HX.out]; exact ok_let k (by omega))
        go_wp2
        go_round
        case rel => exact ⟨k + 1, by go_num, by omega, Lib.hid (show nmUpto s (k + 1) = true by show (nmUpto s k && okCh (byt s k) k) = true; rw [HN.out, HOK.out]; rfl)⟩
        case measure => simp [intOf]; omega
      · have HOK := Lib.hid (show okCh (byt s k) k = true by rw [← HX.out]; exact ok_let k (by omega))
        go_wp2
        go_round
        case rel => exact ⟨k + 1, by go_num, by omega, Lib.hid (show nmUpto s (k + 1) = true by show (nmUpto s k && okCh (byt s k) k) = true; rw [HN.out, HOK.out]; rfl)⟩
        case measure => simp [intOf]; omega
      all_goals
        by_cases hk0 : k = 0
        · subst hk0
          have HOK := Lib.hid (show okCh (byt s 0) 0 = false by rw [← HX.out]; exact ok_zero (by omega))
          go_wp2
          go_ret
          exact ⟨ret_bool (nm_stop hlt (HOK.out)).symm, rfl⟩
        · have hk1 : ((k : Int) == 0) = false := by simp; omega
          by_cases h45 : x = 45
          · have h46 : (x != 45) = false := by simpa using h45
            have H45 := Lib.hid h45
            clear h45
            have HOK := Lib.hid (show okCh (byt s k) k = true from ok_pos hk0 (.inl (HX.out.symm.trans H45.out)))
            go_wp2
            go_round
            case rel => exact ⟨k + 1, by go_num, by omega, Lib.hid (show nmUpto s (k + 1) = true by show (nmUpto s k && okCh (byt s k) k) = true; rw [HN.out, HOK.out]; rfl)⟩
            case measure => simp [intOf]; omega
          · have h46 : (x != 45) = true := by simpa using h45
            have H45 := Lib.hid h45
            clear h45
            by_cases h48 : x < 48
            · have HOK := Lib.hid (show okCh (byt s k) k = false by rw [← HX.out]; exact ok_neg (by omega) H45.out (by omega))
              go_wp2
              go_ret
              exact ⟨ret_bool (nm_stop hlt (HOK.out)).symm, rfl⟩
            by_cases h57 : 57 < x
            · have HOK := Lib.hid (show okCh (byt s k) k = false by rw [← HX.out]; exact ok_neg (by omega) H45.out (by omega))
              go_wp2
              go_ret
              exact ⟨ret_bool (nm_stop hlt (HOK.out)).symm, rfl⟩
            · have HOK := Lib.hid (show okCh (byt s k) k = true by rw [← HX.out]; exact ok_pos hk0 (.inr (by omega)))
              go_wp2
              go_round
              case rel => exact ⟨k + 1, by go_num, by omega, Lib.hid (show nmUpto s (k + 1) = true by show (nmUpto s k && okCh (byt s k) k) = true; rw [HN.out, HOK.out]; rfl)⟩
              case measure => simp [intOf]; omega
    · obtain rfl : k = s.size := by omega
      go_wp2
      go_ret
      exact ⟨ret_bool (by unfold nameOk; rw [HN.out, wi_iff.2 ⟨by omega, by omega⟩]; rfl), rfl⟩
end Go.Proofs.YtdklmcicogmeaaaGreat

/- Series of pulses: their errors, in plain words. -/
namespace Go.Proofs.YtdklmcicogmeaaaGreat
open Go.RowKit
set_option linter.unusedVariables false

/-- The first index, from k on, of an error, and the error; (0, 0): there is none. -/
def firstAt (f : Nat → Int) : Nat → Nat → Int × Int
  | 0, _ => (0, 0)
  | m + 1, k => if f k ≠ 0 then ((k : Int), f k) else firstAt f m (k + 1)
theorem firstAt_step {f : Nat → Int} {n k : Nat} (h : k < n) : firstAt f (n - k) k = if f k ≠ 0 then ((k : Int), f k) else firstAt f (n - (k + 1)) (k + 1) := by
  rw [show n - k = (n - (k + 1)) + 1 by omega, firstAt]
theorem firstAt_end {f : Nat → Int} {n k : Nat} (h : n ≤ k) : firstAt f (n - k) k = (0, 0) := by
  rw [show n - k = 0 by omega, firstAt]
theorem firstAt_none {f : Nat → Int} : ∀ m k, (firstAt f m k).2 = 0 → firstAt f m k = (0, 0) ∧ ∀ j, k ≤ j → j < k + m → f j = 0
  | 0, k, h => ⟨rfl, fun j h1 h2 => by omega⟩
  | m + 1, k, h => by
    unfold firstAt at h ⊢
    by_cases h0 : f k ≠ 0
    · rw [if_pos h0] at h; exact absurd h h0
    · rw [if_neg h0] at h ⊢
      obtain ⟨h1, h2⟩ := firstAt_none m (k + 1) h
      refine ⟨h1, fun j h3 h4 => ?_⟩
      by_cases hj : j = k
      · subst hj; exact Decidable.not_not.1 h0
      · exact h2 j (by omega) (by omega)
theorem firstAt_all {f : Nat → Int} : ∀ m k, (∀ j, k ≤ j → j < k + m → f j = 0) → firstAt f m k = (0, 0)
  | 0, k, h => rfl
  | m + 1, k, h => by
    unfold firstAt
    rw [if_neg (by rw [h k (by omega) (by omega)]; exact fun h => h rfl)]
    exact firstAt_all m (k + 1) (fun j h1 h2 => h j (by omega) (by omega))
/-- A fraction is in lowest terms; its parts are from 1 to m. -/
def isLow (a b : Int) : Bool := decide (b > 0) && (gc a b == 1)
def isPo (a b m : Int) : Bool := wi a 1 m && wi b 1 m
/-- The error of a calibration. -/
def calE (a b c d : Int) : Int :=
  if (isLow a b && isLow c d) = true then (if (isPo a b 1000000000 && isPo c d 1000000000) = true then (if a * d ≤ c * b then 0 else 9) else 2) else 3
/-- A series: name, period, how many pulses a level has, the calibration, pulses. -/
structure Ser where
  nm : ByteArray
  per : Int
  least : Int
  a : Int
  b : Int
  c : Int
  d : Int
  l : List T3
def headE (s : Ser) : Int := firstErr [unl (nameOk s.nm) 4, unl (wi s.per 1 1000000 && wi s.least 1 60) 2, calE s.a s.b s.c s.d, unl (decide ((s.l.length : Int) ≤ 60)) 8]
def pAt (l : List T3) (k : Nat) : T3 := l.getD k ⟨0, 0, 0⟩
def pulR (p : T3) : Bool := (wi p.x 0 1000000000000 && wi p.y (-4096) 4096) && wi p.z 1 100
def pulE (l : List T3) (k : Nat) : Int := firstErr [unl (pulR (pAt l k)) 2, unl ((pAt l k).y != 0) 11, unl (decide (k = 0) || decide ((pAt l (k - 1)).x < (pAt l k).x)) 9]
def serE (s : Ser) : Int × Int := if headE s ≠ 0 then (0, headE s) else firstAt (pulE s.l) s.l.length 0
theorem serE_zero {s : Ser} (h : (serE s).2 = 0) : serE s = (0, 0) ∧ headE s = 0 ∧ ∀ k, k < s.l.length → pulE s.l k = 0 := by
  unfold serE at h ⊢
  by_cases h0 : headE s ≠ 0
  · rw [if_pos h0] at h; exact absurd h h0
  · rw [if_neg h0] at h ⊢
    obtain ⟨h1, h2⟩ := firstAt_none _ _ h
    exact ⟨h1, Decidable.not_not.1 h0, fun k hk => h2 k (by omega) (by omega)⟩
theorem firstErr_cons {x : Int} {r : List Int} : firstErr (x :: r) = 0 ↔ x = 0 ∧ firstErr r = 0 := by
  show (if x = 0 then firstErr r else x) = 0 ↔ _
  split
  · rename_i h; simp [h]
  · rename_i h; simp [h]
theorem unl_eq_zero {b : Bool} {e : Int} (he : e ≠ 0) : unl b e = 0 ↔ b = true := by
  cases b <;> simp [unl, he]
theorem headE_zero {s : Ser} (h : headE s = 0) : nameOk s.nm = true ∧ (1 ≤ s.per ∧ s.per ≤ 1000000) ∧ (1 ≤ s.least ∧ s.least ≤ 60) ∧ calE s.a s.b s.c s.d = 0 ∧ s.l.length ≤ 60 := by
  unfold headE at h
  simp only [firstErr_cons] at h
  obtain ⟨h1, h2, h3, h4, _⟩ := h
  rw [unl_eq_zero (by omega)] at h1 h2 h4
  rw [Bool.and_eq_true, wi_iff, wi_iff] at h2
  refine ⟨h1, h2.1, h2.2, h3, ?_⟩
  have := of_decide_eq_true h4
  omega
theorem calE_zero {a b c d : Int} (h : calE a b c d = 0) : isLow a b = true ∧ isLow c d = true ∧ (1 ≤ a ∧ a ≤ 1000000000) ∧ (1 ≤ b ∧ b ≤ 1000000000) ∧ (1 ≤ c ∧ c ≤ 1000000000) ∧ (1 ≤ d ∧ d ≤ 1000000000) ∧ a * d ≤ c * b := by
  unfold calE at h
  split at h
  · rename_i h1
    split at h
    · rename_i h2
      split at h
      · rename_i h3
        rw [Bool.and_eq_true] at h1 h2
        simp only [isPo, Bool.and_eq_true, wi_iff] at h2
        exact ⟨h1.1, h1.2, h2.1.1, h2.1.2, h2.2.1, h2.2.2, h3⟩
      · omega
    · omega
  · omega
theorem pulE_zero {l : List T3} {k : Nat} (h : pulE l k = 0) : (0 ≤ (pAt l k).x ∧ (pAt l k).x ≤ 1000000000000) ∧ (-4096 ≤ (pAt l k).y ∧ (pAt l k).y ≤ 4096) ∧ (1 ≤ (pAt l k).z ∧ (pAt l k).z ≤ 100) ∧ (pAt l k).y ≠ 0 ∧ (k = 0 ∨ (pAt l (k - 1)).x < (pAt l k).x) := by
  unfold pulE at h
  simp only [firstErr_cons] at h
  obtain ⟨h1, h2, h3, _⟩ := h
  rw [unl_eq_zero (by omega)] at h1 h2 h3
  simp only [pulR, Bool.and_eq_true, wi_iff] at h1
  refine ⟨h1.1.1, h1.1.2, h1.2, by simpa using h2, ?_⟩
  simpa using h3
end Go.Proofs.YtdklmcicogmeaaaGreat
