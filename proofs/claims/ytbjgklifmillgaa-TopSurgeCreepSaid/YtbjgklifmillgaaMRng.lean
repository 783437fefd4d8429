import Derived.Test.YtbjgklifmillgaaFrac
import Derived.Test.YtbjgklifmillgaaMSch
/- Which ladders with ranges are valid. -/
namespace Go.Proofs.Ytbjgklifmillgaa
open Go.RowKit
set_option linter.unusedVariables false

abbrev gr (l : List (Int × Int)) (i : Nat) : Int × Int := l.getD i (0, 0)
def rgOk (s e : List (Int × Int)) (i : Nat) : Bool := wi (gr s i).1 1 100 && (wi (gr s i).2 1 100 && (wi (gr e i).1 0 100 && wi (gr e i).2 0 100))
def rgOrd (s e : List (Int × Int)) (i : Nat) : Bool := decide ((gr s i).1 ≤ (gr s i).2) && decide ((gr e i).1 ≤ (gr e i).2)
def rgPt (s e : List (Int × Int)) (i : Nat) : Int := firstErr [unl (rgOk s e i) 2, unl (rgOrd s e i) 9]
def rgScan (s e : List (Int × Int)) : Nat → Nat → Int
  | 0, _ => 0
  | m + 1, i => if rgPt s e i = 0 then rgScan s e m (i + 1) else rgPt s e i
def rngErr (s e : List (Int × Int)) : Int :=
  if 0 < s.length ∧ e.length = s.length then (if s.length ≤ 6 then rgScan s e s.length 0 else 8) else 10

theorem rng1_any (x : Int) (w : World) : Calls Try.prog 121 #[.int .i64 x] w fun e w' => e = .returned (.bool (wi x 1 100)) ∧ w = w' := by
  go_enter Try.func121, Try.ntmps121
  go_wp2_with (go_at_call 66; refine (within_any _ _ _ _).mono ?_; rintro e w' ⟨rfl, rfl⟩)
  go_ret
  exact ⟨rfl, rfl⟩
theorem rng2_any (x : Int) (w : World) : Calls Try.prog 122 #[.int .i64 x] w fun e w' => e = .returned (.bool (wi x 0 100)) ∧ w = w' := by
  go_enter Try.func122, Try.ntmps122
  go_wp2_with (go_at_call 66; refine (within_any _ _ _ _).mono ?_; rintro e w' ⟨rfl, rfl⟩)
  go_ret
  exact ⟨rfl, rfl⟩
set_option maxHeartbeats 4000000 in
set_option maxRecDepth 100000 in
theorem checkRanges_ok (s e : List (Int × Int)) (a a1 : Option Addr) (n c n1 c1 : Nat) (g : Bool) (w : World) (hs : PairsR w a n s) (he : PairsR w a1 n1 e) (hn : 0 < n) (h1 : n1 = n) (h6 : n ≤ 6) :
    Calls Try.prog 76 #[.agg #[.slice a n c, .slice a1 n1 c1, .bool g]] w fun e' w' => e' = .returned (.int .i64 (rgScan s e n 0)) ∧ Below w.heap.size w w' := by
  subst n1
  obtain ⟨b0, o0, rfl, hb0, hc0⟩ := hs.addr hn
  obtain ⟨b1, o1, rfl, hb1, hc1⟩ := he.addr hn
  have HC := Lib.hid (And.intro hc0 hc1)
  have i9 : (0 : Int) < (n : Int) := by omega
  have i8 : (n : Int) ≤ 6 := by omega
  clear hs he hc0 hc1
  go_enter Try.func76, Try.ntmps76
  go_wp2_with fail
  refine (unless_any _ _ _).mono ?_
  rintro e6 w6 ⟨rfl, rfl⟩
  go_wp2_with fail
  refine (unless_any _ _ _).mono ?_
  rintro e6 w6 ⟨rfl, rfl⟩
  go_wp2_with fail
  refine (first2 _ _ _ _ _ _ (by rfl) (by simp)).mono ?_
  rintro e6 w6 ⟨rfl, rfl⟩
  rw [show firstErr [unl true 10, unl true 8] = 0 from rfl]
  generalize hW : World.alloc _ (Obj.cells #[Value.int IntKind.i64 (unl true 10), Value.int IntKind.i64 (unl true 8)] 34) = w6
  have hb6 : Below w.heap.size w w6 := by rw [← hW]; (repeat' (first | (with_reducible exact Below.refl _ _) | (with_reducible assumption) | (with_reducible refine Below.drewN ?_ _) | (with_reducible refine Below.alloc ?_ ?_ _) | (with_reducible refine Below.drew ?_) | (with_reducible refine Below.setCell ?_ ?_ _) | (with_reducible refine Below.step (by assumption) ?_ ?_) | (with_reducible exact And.left (by assumption)) | go_size))
  have q0 : w6.cell? ⟨w.heap.size, 0, none⟩ = some (.slice (some ⟨b0, o0, none⟩) n c) := by { rw [← hW]; clear hW; go_simp }
  have q1 : w6.cell? ⟨w.heap.size, 1, none⟩ = some (.slice (some ⟨b1, o1, none⟩) n c1) := by { rw [← hW]; clear hW; go_simp }
  have l0 : w.heap.size < w6.heap.size := by rw [← hW]; simp; omega
  have HB6 := Lib.hid hb6
  clear hW hb6
  go_wp2
  go_loopw [35] (fun i wr => ∃ k : Nat, i = .int .i64 k ∧ k ≤ n ∧ Hid (rgScan s e (n - k) k = rgScan s e n 0) ∧ Hid (Below w6.heap.size w6 wr)) (fun i _ => n - (intOf i).toNat)
  case atStart => exact ⟨0, rfl, Nat.zero_le _, rfl, Lib.hid (Below.refl _ _)⟩
  case round =>
    obtain ⟨k, rfl, hk, hF, hB⟩ := hrel
    rcases Nat.lt_or_ge k n with hlt | hge
    · have hbr := hB.out
      have hzr := hbr.size
      have hbw := HB6.out.trans (hbr.mono HB6.out.size)
      have hzw := hbw.size
      obtain ⟨x, hx⟩ : ∃ x, x = (gr s k).1 := ⟨_, rfl⟩
      obtain ⟨y, hy⟩ : ∃ y, y = (gr s k).2 := ⟨_, rfl⟩
      obtain ⟨p, hp⟩ : ∃ p, p = (gr e k).1 := ⟨_, rfl⟩
      obtain ⟨q, hq⟩ : ∃ q, q = (gr e k).2 := ⟨_, rfl⟩
      have cx : wr.cell? ⟨b0, o0 + k * 2, none⟩ = some (.int .i64 x) := by rw [cellB hbw _ _ hb0, hx]; exact (HC.out.1 k hlt).1
      have cy : wr.cell? ⟨b0, o0 + k * 2 + 1, none⟩ = some (.int .i64 y) := by rw [cellB hbw _ _ hb0, hy]; exact (HC.out.1 k hlt).2
      have cp0 : wr.cell? ⟨b1, o1 + k * 2, none⟩ = some (.int .i64 p) := by rw [cellB hbw _ _ hb1, hp]; exact (HC.out.2 k hlt).1
      have cq0 : wr.cell? ⟨b1, o1 + k * 2 + 1, none⟩ = some (.int .i64 q) := by rw [cellB hbw _ _ hb1, hq]; exact (HC.out.2 k hlt).2
      have hb0r : b0 < wr.heap.size := by omega
      have hb1r : b1 < wr.heap.size := by omega
      obtain ⟨m, hm⟩ : ∃ m, n - k = m + 1 := ⟨n - k - 1, by omega⟩
      have hF' := hF.out
      rw [hm, rgScan] at hF'
      obtain ⟨E, hE⟩ : ∃ E, E = rgPt s e k := ⟨_, rfl⟩
      rw [← hE] at hF'
      obtain ⟨g1, hg1⟩ : ∃ b, b = wi x 1 100 := ⟨_, rfl⟩
      obtain ⟨g2, hg2⟩ : ∃ b, b = wi y 1 100 := ⟨_, rfl⟩
      obtain ⟨g3, hg3⟩ : ∃ b, b = wi p 0 100 := ⟨_, rfl⟩
      obtain ⟨g4, hg4⟩ : ∃ b, b = wi q 0 100 := ⟨_, rfl⟩
      have H1 := Lib.hid (fun w' => rng1_any x w')
      have H2 := Lib.hid (fun w' => rng1_any y w')
      have H3 := Lib.hid (fun w' => rng2_any p w')
      have H4 := Lib.hid (fun w' => rng2_any q w')
      rw [← hg1] at H1
      rw [← hg2] at H2
      rw [← hg3] at H3
      rw [← hg4] at H4
      have hE2 : firstErr [unl (g1 && (g2 && (g3 && g4))) 2, unl (decide (x ≤ y) && decide (p ≤ q)) 9] = E := by rw [hE, hg1, hg2, hg3, hg4, hx, hy, hp, hq]; rfl
      have HM := Lib.hid hm
      have HF := Lib.hid hF'
      have i2 : (0 : Int) ≤ (k : Int) := by omega
      have i3 : (k : Int) < (n : Int) := by omega
      have q0' : wr.cell? ⟨w.heap.size, 0, none⟩ = some (.slice (some ⟨b0, o0, none⟩) n c) := by { rw [cellB hbr _ _ (by first | (simp; done) | (simp; omega) | omega)]; all_goals (first | assumption | go_simp) }; have q1' : wr.cell? ⟨w.heap.size, 1, none⟩ = some (.slice (some ⟨b1, o1, none⟩) n c1) := by { rw [cellB hbr _ _ (by first | (simp; done) | (simp; omega) | omega)]; all_goals (first | assumption | go_simp) }; have l0' : w.heap.size < wr.heap.size := by { omega }
      clear hx hy hp hq hm hE hg1 hg2 hg3 hg4 hF' hF hbr hbw q0 q1 l0
      by_cases hxy : x ≤ y
      ·
        cases g1
        · have HE := Lib.hid (show firstErr [unl false 2, unl (decide (p ≤ q)) 9] = E by rw [← hE2, show decide (x ≤ y) = true by simp <;> omega]; rfl)
          clear hE2
          go_wp2_with fail
          refine later_of_eq 33 (by kernel_rfl) (by kernel_rfl) ?_; simp only [List.take_succ_cons, List.take_zero, List.drop_succ_cons, List.drop_zero]; repeat go_big_quiet_step (first | exact calls_later_same (H1.out _) | exact calls_later_same (H2.out _) | exact calls_later_same (H3.out _) | exact calls_later_same (H4.out _) | exact calls_later_same (unless_any _ _ _))
          refine wpQuiet_nil ?_; intro w8 hb8
          have hz8 := hb8.size
          simp only [World.size_alloc] at hz8
          have hb9 := Below.trans (show Below w6.heap.size w6 _ from Below.alloc (Below.alloc hB.out hzr _) (by simp; omega) _) (hb8.mono (by simp; omega))
          have HB9 := Lib.hid hb9
          have cp : w8.cell? ⟨wr.heap.size + 1, 0, none⟩ = some (.int .i64 p) := by { rw [cellB hb8 _ _ (by simp)]; go_simp }
          have cq : w8.cell? ⟨wr.heap.size + 1, 1, none⟩ = some (.int .i64 q) := by { rw [cellB hb8 _ _ (by simp)]; go_simp }
          have cx2 : w8.cell? ⟨wr.heap.size, 0, none⟩ = some (.int .i64 x) := by { rw [cellB hb8 _ _ (by simp; omega)]; go_simp }
          have cy2 : w8.cell? ⟨wr.heap.size, 1, none⟩ = some (.int .i64 y) := by { rw [cellB hb8 _ _ (by simp; omega)]; go_simp }
          clear hb8 hb9
          go_wp2_with fail
          refine (unless_any _ _ _).mono ?_
          rintro e6 w9 ⟨rfl, rfl⟩
          go_wp2_with fail
          refine (first2 _ _ _ _ _ _ (by rfl) (by simp)).mono ?_
          rintro e6 w9 ⟨rfl, rfl⟩
          rw [HE.out]
          generalize hW : w8.alloc _ = w9
          have hb9 : Below w8.heap.size w8 w9 := by rw [← hW]; (repeat' (first | (with_reducible exact Below.refl _ _) | (with_reducible assumption) | (with_reducible refine Below.drewN ?_ _) | (with_reducible refine Below.alloc ?_ ?_ _) | (with_reducible refine Below.drew ?_) | (with_reducible refine Below.setCell ?_ ?_ _) | (with_reducible refine Below.step (by assumption) ?_ ?_) | (with_reducible exact And.left (by assumption)) | go_size))
          have HB10 := Lib.hid (HB9.out.trans (hb9.mono HB9.out.size))
          clear hW hb9 HB9 HE cp cq cx2 cy2
          by_cases hE0 : E = 0
          · subst hE0
            rw [if_pos rfl] at HF
            go_wp2
            go_roundw
            case rel => exact ⟨k + 1, by go_num, by omega, Lib.hid (by rw [← HF.out]; congr 1; have := HM.out; omega), HB10⟩
            case measure => simp [intOf]; omega
          · rw [if_neg hE0] at HF
            have hE1 : (E != 0) = true := by simpa using hE0
            clear hE0
            go_wp2
            go_ret
            exact ⟨ret_int HF.out, HB6.out.trans (HB10.out.mono HB6.out.size)⟩
        · cases g2
          · have HE := Lib.hid (show firstErr [unl false 2, unl (decide (p ≤ q)) 9] = E by rw [← hE2, show decide (x ≤ y) = true by simp <;> omega]; rfl)
            clear hE2
            go_wp2_with fail
            refine later_of_eq 33 (by kernel_rfl) (by kernel_rfl) ?_; simp only [List.take_succ_cons, List.take_zero, List.drop_succ_cons, List.drop_zero]; repeat go_big_quiet_step (first | exact calls_later_same (H1.out _) | exact calls_later_same (H2.out _) | exact calls_later_same (H3.out _) | exact calls_later_same (H4.out _) | exact calls_later_same (unless_any _ _ _))
            refine wpQuiet_nil ?_; intro w8 hb8
            have hz8 := hb8.size
            simp only [World.size_alloc] at hz8
            have hb9 := Below.trans (show Below w6.heap.size w6 _ from Below.alloc (Below.alloc hB.out hzr _) (by simp; omega) _) (hb8.mono (by simp; omega))
            have HB9 := Lib.hid hb9
            have cp : w8.cell? ⟨wr.heap.size + 1, 0, none⟩ = some (.int .i64 p) := by { rw [cellB hb8 _ _ (by simp)]; go_simp }
            have cq : w8.cell? ⟨wr.heap.size + 1, 1, none⟩ = some (.int .i64 q) := by { rw [cellB hb8 _ _ (by simp)]; go_simp }
            have cx2 : w8.cell? ⟨wr.heap.size, 0, none⟩ = some (.int .i64 x) := by { rw [cellB hb8 _ _ (by simp; omega)]; go_simp }
            have cy2 : w8.cell? ⟨wr.heap.size, 1, none⟩ = some (.int .i64 y) := by { rw [cellB hb8 _ _ (by simp; omega)]; go_simp }
            clear hb8 hb9
            go_wp2_with fail
            refine (unless_any _ _ _).mono ?_
            rintro e6 w9 ⟨rfl, rfl⟩
            go_wp2_with fail
            refine (first2 _ _ _ _ _ _ (by rfl) (by simp)).mono ?_
            rintro e6 w9 ⟨rfl, rfl⟩
            rw [HE.out]
            generalize hW : w8.alloc _ = w9
            have hb9 : Below w8.heap.size w8 w9 := by rw [← hW]; (repeat' (first | (with_reducible exact Below.refl _ _) | (with_reducible assumption) | (with_reducible refine Below.drewN ?_ _) | (with_reducible refine Below.alloc ?_ ?_ _) | (with_reducible refine Below.drew ?_) | (with_reducible refine Below.setCell ?_ ?_ _) | (with_reducible refine Below.step (by assumption) ?_ ?_) | (with_reducible exact And.left (by assumption)) | go_size))
            have HB10 := Lib.hid (HB9.out.trans (hb9.mono HB9.out.size))
            clear hW hb9 HB9 HE cp cq cx2 cy2
            by_cases hE0 : E = 0
            · subst hE0
              rw [if_pos rfl] at HF
              go_wp2
              go_roundw
              case rel => exact ⟨k + 1, by go_num, by omega, Lib.hid (by rw [← HF.out]; congr 1; have := HM.out; omega), HB10⟩
              case measure => simp [intOf]; omega
            · rw [if_neg hE0] at HF
              have hE1 : (E != 0) = true := by simpa using hE0
              clear hE0
              go_wp2
              go_ret
              exact ⟨ret_int HF.out, HB6.out.trans (HB10.out.mono HB6.out.size)⟩
          · cases g3
            · have HE := Lib.hid (show firstErr [unl false 2, unl (decide (p ≤ q)) 9] = E by rw [← hE2, show decide (x ≤ y) = true by simp <;> omega]; rfl)
              clear hE2
              go_wp2_with fail
              refine later_of_eq 33 (by kernel_rfl) (by kernel_rfl) ?_; simp only [List.take_succ_cons, List.take_zero, List.drop_succ_cons, List.drop_zero]; repeat go_big_quiet_step (first | exact calls_later_same (H1.out _) | exact calls_later_same (H2.out _) | exact calls_later_same (H3.out _) | exact calls_later_same (H4.out _) | exact calls_later_same (unless_any _ _ _))
              refine wpQuiet_nil ?_; intro w8 hb8
              have hz8 := hb8.size
              simp only [World.size_alloc] at hz8
              have hb9 := Below.trans (show Below w6.heap.size w6 _ from Below.alloc (Below.alloc hB.out hzr _) (by simp; omega) _) (hb8.mono (by simp; omega))
              have HB9 := Lib.hid hb9
              have cp : w8.cell? ⟨wr.heap.size + 1, 0, none⟩ = some (.int .i64 p) := by { rw [cellB hb8 _ _ (by simp)]; go_simp }
              have cq : w8.cell? ⟨wr.heap.size + 1, 1, none⟩ = some (.int .i64 q) := by { rw [cellB hb8 _ _ (by simp)]; go_simp }
              have cx2 : w8.cell? ⟨wr.heap.size, 0, none⟩ = some (.int .i64 x) := by { rw [cellB hb8 _ _ (by simp; omega)]; go_simp }
              have cy2 : w8.cell? ⟨wr.heap.size, 1, none⟩ = some (.int .i64 y) := by { rw [cellB hb8 _ _ (by simp; omega)]; go_simp }
              clear hb8 hb9
              go_wp2_with fail
              refine (unless_any _ _ _).mono ?_
              rintro e6 w9 ⟨rfl, rfl⟩
              go_wp2_with fail
              refine (first2 _ _ _ _ _ _ (by rfl) (by simp)).mono ?_
              rintro e6 w9 ⟨rfl, rfl⟩
              rw [HE.out]
              generalize hW : w8.alloc _ = w9
              have hb9 : Below w8.heap.size w8 w9 := by rw [← hW]; (repeat' (first | (with_reducible exact Below.refl _ _) | (with_reducible assumption) | (with_reducible refine Below.drewN ?_ _) | (with_reducible refine Below.alloc ?_ ?_ _) | (with_reducible refine Below.drew ?_) | (with_reducible refine Below.setCell ?_ ?_ _) | (with_reducible refine Below.step (by assumption) ?_ ?_) | (with_reducible exact And.left (by assumption)) | go_size))
              have HB10 := Lib.hid (HB9.out.trans (hb9.mono HB9.out.size))
              clear hW hb9 HB9 HE cp cq cx2 cy2
              by_cases hE0 : E = 0
              · subst hE0
                rw [if_pos rfl] at HF
                go_wp2
                go_roundw
                case rel => exact ⟨k + 1, by go_num, by omega, Lib.hid (by rw [← HF.out]; congr 1; have := HM.out; omega), HB10⟩
                case measure => simp [intOf]; omega
              · rw [if_neg hE0] at HF
                have hE1 : (E != 0) = true := by simpa using hE0
                clear hE0
                go_wp2
                go_ret
                exact ⟨ret_int HF.out, HB6.out.trans (HB10.out.mono HB6.out.size)⟩
            · have HE := Lib.hid (show firstErr [unl g4 2, unl (decide (p ≤ q)) 9] = E by rw [← hE2, show decide (x ≤ y) = true by simp <;> omega]; rfl)
              clear hE2
              go_wp2_with fail
              refine later_of_eq 33 (by kernel_rfl) (by kernel_rfl) ?_; simp only [List.take_succ_cons, List.take_zero, List.drop_succ_cons, List.drop_zero]; repeat go_big_quiet_step (first | exact calls_later_same (H1.out _) | exact calls_later_same (H2.out _) | exact calls_later_same (H3.out _) | exact calls_later_same (H4.out _) | exact calls_later_same (unless_any _ _ _))
              refine wpQuiet_nil ?_; intro w8 hb8
              have hz8 := hb8.size
              simp only [World.size_alloc] at hz8
              have hb9 := Below.trans (show Below w6.heap.size w6 _ from Below.alloc (Below.alloc hB.out hzr _) (by simp; omega) _) (hb8.mono (by simp; omega))
              have HB9 := Lib.hid hb9
              have cp : w8.cell? ⟨wr.heap.size + 1, 0, none⟩ = some (.int .i64 p) := by { rw [cellB hb8 _ _ (by simp)]; go_simp }
              have cq : w8.cell? ⟨wr.heap.size + 1, 1, none⟩ = some (.int .i64 q) := by { rw [cellB hb8 _ _ (by simp)]; go_simp }
              have cx2 : w8.cell? ⟨wr.heap.size, 0, none⟩ = some (.int .i64 x) := by { rw [cellB hb8 _ _ (by simp; omega)]; go_simp }
              have cy2 : w8.cell? ⟨wr.heap.size, 1, none⟩ = some (.int .i64 y) := by { rw [cellB hb8 _ _ (by simp; omega)]; go_simp }
              clear hb8 hb9
              go_wp2_with fail
              refine (unless_any _ _ _).mono ?_
              rintro e6 w9 ⟨rfl, rfl⟩
              go_wp2_with fail
              refine (first2 _ _ _ _ _ _ (by rfl) (by simp)).mono ?_
              rintro e6 w9 ⟨rfl, rfl⟩
              rw [HE.out]
              generalize hW : w8.alloc _ = w9
              have hb9 : Below w8.heap.size w8 w9 := by rw [← hW]; (repeat' (first | (with_reducible exact Below.refl _ _) | (with_reducible assumption) | (with_reducible refine Below.drewN ?_ _) | (with_reducible refine Below.alloc ?_ ?_ _) | (with_reducible refine Below.drew ?_) | (with_reducible refine Below.setCell ?_ ?_ _) | (with_reducible refine Below.step (by assumption) ?_ ?_) | (with_reducible exact And.left (by assumption)) | go_size))
              have HB10 := Lib.hid (HB9.out.trans (hb9.mono HB9.out.size))
              clear hW hb9 HB9 HE cp cq cx2 cy2
              by_cases hE0 : E = 0
              · subst hE0
                rw [if_pos rfl] at HF
                go_wp2
                go_roundw
                case rel => exact ⟨k + 1, by go_num, by omega, Lib.hid (by rw [← HF.out]; congr 1; have := HM.out; omega), HB10⟩
                case measure => simp [intOf]; omega
              · rw [if_neg hE0] at HF
                have hE1 : (E != 0) = true := by simpa using hE0
                clear hE0
                go_wp2
                go_ret
                exact ⟨ret_int HF.out, HB6.out.trans (HB10.out.mono HB6.out.size)⟩
      · have hxd : decide (x ≤ y) = false := by simpa using hxy
        cases g1
        · have HE := Lib.hid (show firstErr [unl false 2, unl (false) 9] = E by rw [← hE2, show decide (x ≤ y) = false by simp <;> omega]; rfl)
          clear hE2
          go_wp2_with fail
          refine later_of_eq 33 (by kernel_rfl) (by kernel_rfl) ?_; simp only [List.take_succ_cons, List.take_zero, List.drop_succ_cons, List.drop_zero]; repeat go_big_quiet_step (first | exact calls_later_same (H1.out _) | exact calls_later_same (H2.out _) | exact calls_later_same (H3.out _) | exact calls_later_same (H4.out _) | exact calls_later_same (unless_any _ _ _))
          refine wpQuiet_nil ?_; intro w8 hb8
          have hz8 := hb8.size
          simp only [World.size_alloc] at hz8
          have hb9 := Below.trans (show Below w6.heap.size w6 _ from Below.alloc (Below.alloc hB.out hzr _) (by simp; omega) _) (hb8.mono (by simp; omega))
          have HB9 := Lib.hid hb9
          have cp : w8.cell? ⟨wr.heap.size + 1, 0, none⟩ = some (.int .i64 p) := by { rw [cellB hb8 _ _ (by simp)]; go_simp }
          have cq : w8.cell? ⟨wr.heap.size + 1, 1, none⟩ = some (.int .i64 q) := by { rw [cellB hb8 _ _ (by simp)]; go_simp }
          have cx2 : w8.cell? ⟨wr.heap.size, 0, none⟩ = some (.int .i64 x) := by { rw [cellB hb8 _ _ (by simp; omega)]; go_simp }
          have cy2 : w8.cell? ⟨wr.heap.size, 1, none⟩ = some (.int .i64 y) := by { rw [cellB hb8 _ _ (by simp; omega)]; go_simp }
          clear hb8 hb9
          go_wp2_with fail
          refine (unless_any _ _ _).mono ?_
          rintro e6 w9 ⟨rfl, rfl⟩
          go_wp2_with fail
          refine (first2 _ _ _ _ _ _ (by rfl) (by simp)).mono ?_
          rintro e6 w9 ⟨rfl, rfl⟩
          rw [HE.out]
          generalize hW : w8.alloc _ = w9
          have hb9 : Below w8.heap.size w8 w9 := by rw [← hW]; (repeat' (first | (with_reducible exact Below.refl _ _) | (with_reducible assumption) | (with_reducible refine Below.drewN ?_ _) | (with_reducible refine Below.alloc ?_ ?_ _) | (with_reducible refine Below.drew ?_) | (with_reducible refine Below.setCell ?_ ?_ _) | (with_reducible refine Below.step (by assumption) ?_ ?_) | (with_reducible exact And.left (by assumption)) | go_size))
          have HB10 := Lib.hid (HB9.out.trans (hb9.mono HB9.out.size))
          clear hW hb9 HB9 HE cp cq cx2 cy2
          by_cases hE0 : E = 0
          · subst hE0
            rw [if_pos rfl] at HF
            go_wp2
            go_roundw
            case rel => exact ⟨k + 1, by go_num, by omega, Lib.hid (by rw [← HF.out]; congr 1; have := HM.out; omega), HB10⟩
            case measure => simp [intOf]; omega
          · rw [if_neg hE0] at HF
            have hE1 : (E != 0) = true := by simpa using hE0
            clear hE0
            go_wp2
            go_ret
            exact ⟨ret_int HF.out, HB6.out.trans (HB10.out.mono HB6.out.size)⟩
        · cases g2
          · have HE := Lib.hid (show firstErr [unl false 2, unl (false) 9] = E by rw [← hE2, show decide (x ≤ y) = false by simp <;> omega]; rfl)
            clear hE2
            go_wp2_with fail
            refine later_of_eq 33 (by kernel_rfl) (by kernel_rfl) ?_; simp only [List.take_succ_cons, List.take_zero, List.drop_succ_cons, List.drop_zero]; repeat go_big_quiet_step (first | exact calls_later_same (H1.out _) | exact calls_later_same (H2.out _) | exact calls_later_same (H3.out _) | exact calls_later_same (H4.out _) | exact calls_later_same (unless_any _ _ _))
            refine wpQuiet_nil ?_; intro w8 hb8
            have hz8 := hb8.size
            simp only [World.size_alloc] at hz8
            have hb9 := Below.trans (show Below w6.heap.size w6 _ from Below.alloc (Below.alloc hB.out hzr _) (by simp; omega) _) (hb8.mono (by simp; omega))
            have HB9 := Lib.hid hb9
            have cp : w8.cell? ⟨wr.heap.size + 1, 0, none⟩ = some (.int .i64 p) := by { rw [cellB hb8 _ _ (by simp)]; go_simp }
            have cq : w8.cell? ⟨wr.heap.size + 1, 1, none⟩ = some (.int .i64 q) := by { rw [cellB hb8 _ _ (by simp)]; go_simp }
            have cx2 : w8.cell? ⟨wr.heap.size, 0, none⟩ = some (.int .i64 x) := by { rw [cellB hb8 _ _ (by simp; omega)]; go_simp }
            have cy2 : w8.cell? ⟨wr.heap.size, 1, none⟩ = some (.int .i64 y) := by { rw [cellB hb8 _ _ (by simp; omega)]; go_simp }
            clear hb8 hb9
            go_wp2_with fail
            refine (unless_any _ _ _).mono ?_
            rintro e6 w9 ⟨rfl, rfl⟩
            go_wp2_with fail
            refine (first2 _ _ _ _ _ _ (by rfl) (by simp)).mono ?_
            rintro e6 w9 ⟨rfl, rfl⟩
            rw [HE.out]
            generalize hW : w8.alloc _ = w9
            have hb9 : Below w8.heap.size w8 w9 := by rw [← hW]; (repeat' (first | (with_reducible exact Below.refl _ _) | (with_reducible assumption) | (with_reducible refine Below.drewN ?_ _) | (with_reducible refine Below.alloc ?_ ?_ _) | (with_reducible refine Below.drew ?_) | (with_reducible refine Below.setCell ?_ ?_ _) | (with_reducible refine Below.step (by assumption) ?_ ?_) | (with_reducible exact And.left (by assumption)) | go_size))
            have HB10 := Lib.hid (HB9.out.trans (hb9.mono HB9.out.size))
            clear hW hb9 HB9 HE cp cq cx2 cy2
            by_cases hE0 : E = 0
            · subst hE0
              rw [if_pos rfl] at HF
              go_wp2
              go_roundw
              case rel => exact ⟨k + 1, by go_num, by omega, Lib.hid (by rw [← HF.out]; congr 1; have := HM.out; omega), HB10⟩
              case measure => simp [intOf]; omega
            · rw [if_neg hE0] at HF
              have hE1 : (E != 0) = true := by simpa using hE0
              clear hE0
              go_wp2
              go_ret
              exact ⟨ret_int HF.out, HB6.out.trans (HB10.out.mono HB6.out.size)⟩
          · cases g3
            · have HE := Lib.hid (show firstErr [unl false 2, unl (false) 9] = E by rw [← hE2, show decide (x ≤ y) = false by simp <;> omega]; rfl)
              clear hE2
              go_wp2_with fail
              refine later_of_eq 33 (by kernel_rfl) (by kernel_rfl) ?_; simp only [List.take_succ_cons, List.take_zero, List.drop_succ_cons, List.drop_zero]; repeat go_big_quiet_step (first | exact calls_later_same (H1.out _) | exact calls_later_same (H2.out _) | exact calls_later_same (H3.out _) | exact calls_later_same (H4.out _) | exact calls_later_same (unless_any _ _ _))
              refine wpQuiet_nil ?_; intro w8 hb8
              have hz8 := hb8.size
              simp only [World.size_alloc] at hz8
              have hb9 := Below.trans (show Below w6.heap.size w6 _ from Below.alloc (Below.alloc hB.out hzr _) (by simp; omega) _) (hb8.mono (by simp; omega))
              have HB9 := Lib.hid hb9
              have cp : w8.cell? ⟨wr.heap.size + 1, 0, none⟩ = some (.int .i64 p) := by { rw [cellB hb8 _ _ (by simp)]; go_simp }
              have cq : w8.cell? ⟨wr.heap.size + 1, 1, none⟩ = some (.int .i64 q) := by { rw [cellB hb8 _ _ (by simp)]; go_simp }
              have cx2 : w8.cell? ⟨wr.heap.size, 0, none⟩ = some (.int .i64 x) := by { rw [cellB hb8 _ _ (by simp; omega)]; go_simp }
              have cy2 : w8.cell? ⟨wr.heap.size, 1, none⟩ = some (.int .i64 y) := by { rw [cellB hb8 _ _ (by simp; omega)]; go_simp }
              clear hb8 hb9
              go_wp2_with fail
              refine (unless_any _ _ _).mono ?_
              rintro e6 w9 ⟨rfl, rfl⟩
              go_wp2_with fail
              refine (first2 _ _ _ _ _ _ (by rfl) (by simp)).mono ?_
              rintro e6 w9 ⟨rfl, rfl⟩
              rw [HE.out]
              generalize hW : w8.alloc _ = w9
              have hb9 : Below w8.heap.size w8 w9 := by rw [← hW]; (repeat' (first | (with_reducible exact Below.refl _ _) | (with_reducible assumption) | (with_reducible refine Below.drewN ?_ _) | (with_reducible refine Below.alloc ?_ ?_ _) | (with_reducible refine Below.drew ?_) | (with_reducible refine Below.setCell ?_ ?_ _) | (with_reducible refine Below.step (by assumption) ?_ ?_) | (with_reducible exact And.left (by assumption)) | go_size))
              have HB10 := Lib.hid (HB9.out.trans (hb9.mono HB9.out.size))
              clear hW hb9 HB9 HE cp cq cx2 cy2
              by_cases hE0 : E = 0
              · subst hE0
                rw [if_pos rfl] at HF
                go_wp2
                go_roundw
                case rel => exact ⟨k + 1, by go_num, by omega, Lib.hid (by rw [← HF.out]; congr 1; have := HM.out; omega), HB10⟩
                case measure => simp [intOf]; omega
              · rw [if_neg hE0] at HF
                have hE1 : (E != 0) = true := by simpa using hE0
                clear hE0
                go_wp2
                go_ret
                exact ⟨ret_int HF.out, HB6.out.trans (HB10.out.mono HB6.out.size)⟩
            · have HE := Lib.hid (show firstErr [unl g4 2, unl (false) 9] = E by rw [← hE2, show decide (x ≤ y) = false by simp <;> omega]; rfl)
              clear hE2
              go_wp2_with fail
              refine later_of_eq 33 (by kernel_rfl) (by kernel_rfl) ?_; simp only [List.take_succ_cons, List.take_zero, List.drop_succ_cons, List.drop_zero]; repeat go_big_quiet_step (first | exact calls_later_same (H1.out _) | exact calls_later_same (H2.out _) | exact calls_later_same (H3.out _) | exact calls_later_same (H4.out _) | exact calls_later_same (unless_any _ _ _))
              refine wpQuiet_nil ?_; intro w8 hb8
              have hz8 := hb8.size
              simp only [World.size_alloc] at hz8
              have hb9 := Below.trans (show Below w6.heap.size w6 _ from Below.alloc (Below.alloc hB.out hzr _) (by simp; omega) _) (hb8.mono (by simp; omega))
              have HB9 := Lib.hid hb9
              have cp : w8.cell? ⟨wr.heap.size + 1, 0, none⟩ = some (.int .i64 p) := by { rw [cellB hb8 _ _ (by simp)]; go_simp }
              have cq : w8.cell? ⟨wr.heap.size + 1, 1, none⟩ = some (.int .i64 q) := by { rw [cellB hb8 _ _ (by simp)]; go_simp }
              have cx2 : w8.cell? ⟨wr.heap.size, 0, none⟩ = some (.int .i64 x) := by { rw [cellB hb8 _ _ (by simp; omega)]; go_simp }
              have cy2 : w8.cell? ⟨wr.heap.size, 1, none⟩ = some (.int .i64 y) := by { rw [cellB hb8 _ _ (by simp; omega)]; go_simp }
              clear hb8 hb9
              go_wp2_with fail
              refine (unless_any _ _ _).mono ?_
              rintro e6 w9 ⟨rfl, rfl⟩
              go_wp2_with fail
              refine (first2 _ _ _ _ _ _ (by rfl) (by simp)).mono ?_
              rintro e6 w9 ⟨rfl, rfl⟩
              rw [HE.out]
              generalize hW : w8.alloc _ = w9
              have hb9 : Below w8.heap.size w8 w9 := by rw [← hW]; (repeat' (first | (with_reducible exact Below.refl _ _) | (with_reducible assumption) | (with_reducible refine Below.drewN ?_ _) | (with_reducible refine Below.alloc ?_ ?_ _) | (with_reducible refine Below.drew ?_) | (with_reducible refine Below.setCell ?_ ?_ _) | (with_reducible refine Below.step (by assumption) ?_ ?_) | (with_reducible exact And.left (by assumption)) | go_size))
              have HB10 := Lib.hid (HB9.out.trans (hb9.mono HB9.out.size))
              clear hW hb9 HB9 HE cp cq cx2 cy2
              by_cases hE0 : E = 0
              · subst hE0
                rw [if_pos rfl] at HF
                go_wp2
                go_roundw
                case rel => exact ⟨k + 1, by go_num, by omega, Lib.hid (by rw [← HF.out]; congr 1; have := HM.out; omega), HB10⟩
                case measure => simp [intOf]; omega
              · rw [if_neg hE0] at HF
                have hE1 : (E != 0) = true := by simpa using hE0
                clear hE0
                go_wp2
                go_ret
                exact ⟨ret_int HF.out, HB6.out.trans (HB10.out.mono HB6.out.size)⟩
    · obtain rfl : k = n := by omega
      have HR := Lib.hid (HB6.out.trans (hB.out.mono HB6.out.size))
      have HN := Lib.hid (show rgScan s e k 0 = 0 by rw [← hF.out, Nat.sub_self]; rfl)
      go_wp2
      go_ret
      exact ⟨ret_int (by rw [HN.out]), HR.out⟩
end Go.Proofs.Ytbjgklifmillgaa

/- Which ladders with ranges are refused at once. -/
namespace Go.Proofs.Ytbjgklifmillgaa
open Go.RowKit
set_option linter.unusedVariables false

set_option maxRecDepth 100000 in
theorem checkRanges_bad (a a1 : Option Addr) (n c n1 c1 : Nat) (g : Bool) (w : World) (E : Int)
    (h : (0 < n ∧ n1 = n ∧ 6 < n ∧ n ≤ 9223372036854775807 ∧ E = 8) ∨ (¬ (0 < n ∧ n1 = n) ∧ n ≤ 9223372036854775807 ∧ E = 10)) (hs1 : n1 ≤ 9223372036854775807) :
    Calls Try.prog 76 #[.agg #[.slice a n c, .slice a1 n1 c1, .bool g]] w fun e' w' => e' = .returned (.int .i64 E) ∧ Below w.heap.size w w' := by
  rcases h with ⟨hn, rfl, h6, h9, rfl⟩ | ⟨hb, h9, rfl⟩
  · have i9 : (0 : Int) < (n1 : Int) := by omega
    have HD := Lib.hid (show decide ((n1 : Int) ≤ 6) = false by simp; omega)
    go_enter Try.func76, Try.ntmps76
    go_wp2_with fail
    refine (unless_any _ _ _).mono ?_
    rintro e6 w6 ⟨rfl, rfl⟩
    go_wp2_with fail
    refine (unless_any _ _ _).mono ?_
    rintro e6 w6 ⟨rfl, rfl⟩
    go_wp2_with fail
    refine (first2 _ _ _ _ _ _ (by rfl) (by simp)).mono ?_
    rintro e6 w6 ⟨rfl, rfl⟩
    rw [HD.out, show firstErr [unl true 10, unl false 8] = 8 from rfl]
    go_wp2
    go_ret
    exact ⟨rfl, by (repeat' (first | (with_reducible exact Below.refl _ _) | (with_reducible assumption) | (with_reducible refine Below.drewN ?_ _) | (with_reducible refine Below.alloc ?_ ?_ _) | (with_reducible refine Below.drew ?_) | (with_reducible refine Below.setCell ?_ ?_ _) | (with_reducible refine Below.step (by assumption) ?_ ?_) | (with_reducible exact And.left (by assumption)) | go_size))⟩
  · generalize hq : unl (decide ((n : Int) ≤ 6)) 8 = q
    have HQ := Lib.hid hq; clear hq
    by_cases h0 : 0 < n
    · have h1' : ((n1 : Int) == (n : Int)) = false := by simp; omega
      have i9 : (0 : Int) < (n : Int) := by omega
      clear hb
      go_enter Try.func76, Try.ntmps76
      go_wp2_with fail
      refine (unless_any _ _ _).mono ?_
      rintro e6 w6 ⟨rfl, rfl⟩
      go_wp2_with fail
      refine (unless_any _ _ _).mono ?_
      rintro e6 w6 ⟨rfl, rfl⟩
      rw [HQ.out]
      go_wp2_with fail
      refine (first2 _ _ _ _ _ _ (by rfl) (by simp)).mono ?_
      rintro e6 w6 ⟨rfl, rfl⟩
      rw [show firstErr [unl false 10, q] = 10 from rfl]
      go_wp2
      go_ret
      exact ⟨rfl, by (repeat' (first | (with_reducible exact Below.refl _ _) | (with_reducible assumption) | (with_reducible refine Below.drewN ?_ _) | (with_reducible refine Below.alloc ?_ ?_ _) | (with_reducible refine Below.drew ?_) | (with_reducible refine Below.setCell ?_ ?_ _) | (with_reducible refine Below.step (by assumption) ?_ ?_) | (with_reducible exact And.left (by assumption)) | go_size))⟩
    · obtain rfl : n = 0 := by omega
      clear hb h0
      obtain rfl : q = 0 := by rw [← HQ.out]; rfl
      go_enter Try.func76, Try.ntmps76
      go_wp2_with fail
      refine (unless_any _ _ _).mono ?_
      rintro e6 w6 ⟨rfl, rfl⟩
      go_wp2_with fail
      refine (unless_any _ _ _).mono ?_
      rintro e6 w6 ⟨rfl, rfl⟩
      go_wp2_with fail
      refine (first2 _ _ _ _ _ _ (by rfl) (by simp)).mono ?_
      rintro e6 w6 ⟨rfl, rfl⟩
      rw [show firstErr [unl false 10, unl true 8] = 10 from rfl]
      go_wp2
      go_ret
      exact ⟨rfl, by (repeat' (first | (with_reducible exact Below.refl _ _) | (with_reducible assumption) | (with_reducible refine Below.drewN ?_ _) | (with_reducible refine Below.alloc ?_ ?_ _) | (with_reducible refine Below.drew ?_) | (with_reducible refine Below.setCell ?_ ?_ _) | (with_reducible refine Below.step (by assumption) ?_ ?_) | (with_reducible exact And.left (by assumption)) | go_size))⟩
end Go.Proofs.Ytbjgklifmillgaa
