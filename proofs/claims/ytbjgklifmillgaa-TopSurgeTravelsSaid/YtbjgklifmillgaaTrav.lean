import Derived.Deep.CutRange
import Derived.Test.YtbjgklifmillgaaAwake
import Derived.Test.YtbjgklifmillgaaBlk
import Derived.Test.YtbjgklifmillgaaChop
import Derived.Test.YtbjgklifmillgaaFallLib
import Derived.Test.YtbjgklifmillgaaMSch
import Derived.Test.YtbjgklifmillgaaPk
import Derived.Test.YtbjgklifmillgaaPkStep
import Derived.Test.YtbjgklifmillgaaTravPlain
/- The statement TopSurgeTravels: the walk. -/
namespace Go.Proofs.Ytbjgklifmillgaa
open Go.RowKit
set_option linter.unusedVariables false

set_option maxHeartbeats 1000000 in
set_option maxRecDepth 100000 in
theorem topAwake_any (w : World) : Calls Try.prog 15 #[] w fun e' w' => e' = .returned (.bool true) ∧ Below w.heap.size w w' := by
  go_enter Try.func15, Try.ntmps15
  go_wp2_with fail
  refine (ladder_any _).mono ?_
  rintro e5 w5 ⟨g1, g2, g3, rfl, hb5, hi1, hi2, hi3⟩
  have H1 := Lib.hid (And.intro hi1 (And.intro hi2 hi3))
  have HB5 := Lib.hid hb5
  clear hi1 hi2 hi3 hb5
  go_wp2_with fail
  refine (initialOf_ok [2, 2] [1, 0] [1, 3] _ _ _ 2 2 2 2 2 2 1 true w5 H1.out.1 H1.out.2.1 H1.out.2.2 ex_lad rfl).mono ?_
  rintro e6 w6 ⟨hb6, hp⟩
  rw [ex_init] at hp
  rcases hp with ⟨h, _⟩ | ⟨_, au, cu, rfl, hu⟩
  · exact absurd h (by decide +kernel)
  have HB6 := Lib.hid (HB5.out.trans (hb6.mono HB5.out.size))
  have HU6 := Lib.hid hu
  clear hb6 hu H1 HB5
  go_wp2_with fail
  refine (ranges_any _).mono ?_
  rintro e7 w7 ⟨g4, g5, rfl, hb7, hi1, hi2⟩
  have H1 := Lib.hid (And.intro hi1 hi2)
  have HB7 := Lib.hid (HB6.out.trans (hb7.mono HB6.out.size))
  have HU7 := Lib.hid (HU6.out.below hb7)
  clear hi1 hi2 hb7 HB6 HU6
  have HG := gapSpan_ok _ _ _ _ 2 2 2 2 1 0 true 0 rfl w7 H1.out.1 H1.out.2 ex_rng rfl (by omega)
  rw [ex_gap1, ex_gap2, if_pos (by decide +kernel)] at HG
  have HG' := Lib.hid HG
  clear HG
  go_wp2_with fail
  refine HG'.out.mono ?_
  rintro e8 w8 ⟨rfl, hb8⟩
  have HB8 := Lib.hid (HB7.out.trans (hb8.mono HB7.out.size))
  have HU8 := Lib.hid (HU7.out.below hb8)
  clear hb8 HB7 HU7 HG' H1
  obtain ⟨b, o, rfl, hlb, hcb⟩ := HU8.out.addr (by omega)
  have hc0 := (hcb 1 (by omega)).1
  have hc1 := (hcb 1 (by omega)).2
  simp only [Nat.one_mul, List.getD_cons_succ, List.getD_cons_zero] at hc0 hc1
  clear hcb
  go_wp2
  go_ret
  exact ⟨rfl, by have := HB8.out; have := HB8.out.size; (repeat' (first | (with_reducible exact Below.refl _ _) | (with_reducible assumption) | (with_reducible refine Below.drewN ?_ _) | (with_reducible refine Below.alloc ?_ ?_ _) | (with_reducible refine Below.drew ?_) | (with_reducible refine Below.setCell ?_ ?_ _) | (with_reducible refine Below.step (by assumption) ?_ ?_) | (with_reducible exact And.left (by assumption)) | go_size))⟩
set_option maxHeartbeats 1000000 in
set_option maxRecDepth 100000 in
theorem trav_out (p f t sec ch : Int) (b1 b2 b3 b4 b5 : Bool) (w : World) (h1 : wi p 0 1000 = b1) (h2 : wi f 1 5 = b2) (h3 : wi t 6 40 = b3) (h4 : wi sec 2 8 = b4) (h5 : wi ch 1 7 = b5) (h : (b1 && b2 && b3 && b4 && b5) = false) :
    Calls Try.prog 4 #[.agg #[.int .i64 p, .int .i64 f, .int .i64 t], .int .i64 sec, .int .i64 ch] w fun e' w' => e' = .returned (.bool true) ∧ Below w.heap.size w w' := by
  have HW1 := Lib.hid (fun w' => bwithin_any p 0 1000 w')
  have HW2 := Lib.hid (fun w' => bwithin_any f 1 5 w')
  have HW3 := Lib.hid (fun w' => bwithin_any t 6 40 w')
  have HW4 := Lib.hid (fun w' => bwithin_any sec 2 8 w')
  have HW5 := Lib.hid (fun w' => bwithin_any ch 1 7 w')
  rw [h1] at HW1
  rw [h2] at HW2
  rw [h3] at HW3
  rw [h4] at HW4
  rw [h5] at HW5
  clear h1 h2 h3 h4 h5
  go_enter Try.func4, Try.ntmps4
  go_wp2_with fail
  refine (topAwake_any _).mono ?_
  rintro e5 w5 ⟨rfl, hb5⟩
  have hz5 := hb5.size
  simp only [World.size_alloc] at hz5
  have q0 : w5.cell? ⟨w.heap.size, 0, none⟩ = some (.int .i64 p) := by { rw [cellB hb5 _ _ (by first | (simp; done) | (simp; omega) | omega)]; all_goals (first | assumption | go_simp) }; have q1 : w5.cell? ⟨w.heap.size, 1, none⟩ = some (.int .i64 f) := by { rw [cellB hb5 _ _ (by first | (simp; done) | (simp; omega) | omega)]; all_goals (first | assumption | go_simp) }; have q2 : w5.cell? ⟨w.heap.size, 2, none⟩ = some (.int .i64 t) := by { rw [cellB hb5 _ _ (by first | (simp; done) | (simp; omega) | omega)]; all_goals (first | assumption | go_simp) }; have l5 : w.heap.size < w5.heap.size := by { omega }
  have HB5 := Lib.hid (show Below w.heap.size w w5 by (repeat' (first | (with_reducible exact Below.refl _ _) | (with_reducible assumption) | (with_reducible refine Below.drewN ?_ _) | (with_reducible refine Below.alloc ?_ ?_ _) | (with_reducible refine Below.drew ?_) | (with_reducible refine Below.setCell ?_ ?_ _) | (with_reducible refine Below.step (by assumption) ?_ ?_) | (with_reducible exact And.left (by assumption)) | go_size)))
  clear hb5 hz5
  go_wp2_with fail
  refine (HW1.out _).mono ?_
  rintro e1 w1 ⟨rfl, rfl⟩
  cases b1
  · skip
    go_wp2
    go_ret
    exact ⟨rfl, HB5.out⟩
  · skip
    go_wp2_with fail
    refine (HW2.out _).mono ?_
    rintro e1 w1 ⟨rfl, rfl⟩
    cases b2
    · skip
      go_wp2
      go_ret
      exact ⟨rfl, HB5.out⟩
    · skip
      go_wp2_with fail
      refine (HW3.out _).mono ?_
      rintro e1 w1 ⟨rfl, rfl⟩
      cases b3
      · skip
        go_wp2
        go_ret
        exact ⟨rfl, HB5.out⟩
      · skip
        go_wp2_with fail
        refine (HW4.out _).mono ?_
        rintro e1 w1 ⟨rfl, rfl⟩
        cases b4
        · skip
          go_wp2
          go_ret
          exact ⟨rfl, HB5.out⟩
        · skip
          go_wp2_with fail
          refine (HW5.out _).mono ?_
          rintro e1 w1 ⟨rfl, rfl⟩
          cases b5
          · skip
            go_wp2
            go_ret
            exact ⟨rfl, HB5.out⟩
          · simp at h
theorem Tv.len {p f t c : Int} (h : Tv p f t c) : (cutL p f t c).length ≤ 6 := by
  rw [h.cut]
  unfold chAll chF
  rw [h.full]
  have := List.length_filter_le (fun q : Int × Int => decide (q.1 < c)) [(0, 0), (f, p), (t, p / 2), (4 * t, 0)]
  simp only [List.length_append, List.length_cons, List.length_nil] at *
  omega
theorem chop_p (p f t c : Int) (h : Tv p f t c) (a : Option Addr) (cp : Nat) (w : World) (hp : PairsR w a 4 (fuL p f t)) :
    Calls Try.prog 19 #[.agg #[.slice a 4 cp], .int .i64 c, .int .i64 1] w fun e' w' => ∃ a' N c', e' = .returned (.tuple #[.agg #[.slice a' N c'], .int .i64 0]) ∧ Below w.heap.size w w' ∧ PairsR w' a' N (cutL p f t c) ∧ N ≤ 6 := by
  refine (chopped_main (fuL p f t) c 1 a 4 cp w hp h.ok).mono ?_
  rintro e' w' ⟨a', N, c', rfl, hb, hp'⟩
  refine ⟨a', N, c', by rw [h.cut0], hb, hp', ?_⟩
  have := hp'.len
  have := h.len
  unfold cutL at *
  omega
theorem trav_step {l : List Int} {n k : Nat} (h2 : 2 ≤ n) (h8 : n ≤ 8) (hS : Src 1000 l) (hk : k < n) (al a5 a6 : Option Addr) (cl c5 c6 : Nat) (w : World) (hy : IntsR w al n (ln3 n)) (h5 : IntsR w a5 n (wv l n k)) (h6 : IntsR w a6 n (List.replicate n 0)) :
    Calls Try.prog 27 #[.agg #[.slice al n cl, .bool true], .agg #[.slice a5 n c5, .slice a6 n c6], .int .i64 (g0 l k)] w fun e' w' => Below w.heap.size w w' ∧ ∃ g1 g2 av cv, e' = .returned (.tuple #[.agg #[.slice (some ⟨g1, 0, none⟩) n n, .slice (some ⟨g2, 0, none⟩) n n], .slice (some ⟨av, 0, none⟩) (n + 1) cv, .int .i64 0]) ∧
      IntsR w' (some ⟨g1, 0, none⟩) n (wv l n (k + 1)) ∧ IntsR w' (some ⟨g2, 0, none⟩) n (List.replicate n 0) ∧ IntsR w' (some ⟨av, 0, none⟩) (n + 1) (outV (ln3 n) (wv l n k) (List.replicate n 0) (g0 l k) true) := by
  refine (step_p (ln3 n) (wv l n k) (List.replicate n 0) (g0 l k) al a5 a6 n cl c5 c6 true w hy h5 h6 (tr_ok h2 h8 hS k) (by omega)).mono ?_
  rintro e' w' ⟨hb, hp⟩
  refine ⟨hb, ?_⟩
  rcases hp with ⟨hE, _⟩ | ⟨_, g1, g2, av, cv, rfl, o1, o2, o3⟩
  · exact absurd (tr_E h2 h8 hS hk) hE
  · rw [tr_F h2] at o1
    rw [tr_B h2 hk] at o2
    exact ⟨g1, g2, av, cv, rfl, SlR.of_owns o1, SlR.of_owns o2, SlR.of_owns o3⟩
/-- Integers stay where a block that holds none is written. -/
theorem ints_kept {w w' : World} {a : Option Addr} {n : Nat} {l : List Int} (h : IntsR w a n l) {X : Nat} {cs : Array Value} {t : TypeId} (hx : w.heap[X]? = some (.cells cs t)) (hcs : ∀ (i : Nat) (z : Int), cs[i]? ≠ some (.int .i64 z)) (hs : w.heap.size ≤ w'.heap.size) (hb : ∀ b, b ≠ X → w'.heap[b]? = w.heap[b]?) : IntsR w' a n l := by
  refine ⟨h.1, h.2.1, fun hn => ?_⟩
  obtain ⟨b, o, ha, hlt, hc⟩ := h.2.2 hn
  have hne : b ≠ X := by
    rintro rfl
    have h0 := hc 0 _ (icells_get (by rw [h.len]; exact hn))
    rw [cell_of_row w b _ cs t _ hx] at h0
    exact hcs _ _ h0
  refine ⟨b, o, ha, Nat.lt_of_lt_of_le hlt hs, fun i u hu => ?_⟩
  rw [← hc i u hu]
  simp only [World.cell?, hb b hne]
theorem two_slices (a b : Option Addr) (n c m d i : Nat) (z : Int) : (#[Value.slice a n c, .slice b m d] : Array Value)[i]? ≠ some (.int .i64 z) := by
  rcases i with _ | _ | i
  · simp
  · simp
  · simp
set_option maxHeartbeats 4000000 in
set_option maxRecDepth 100000 in
theorem trav_main (p f t c : Int) (n : Nat) (w : World) (h : Tv p f t c) (hn2 : 2 ≤ n) (hn8 : n ≤ 8) :
    Calls Try.prog 4 #[.agg #[.int .i64 p, .int .i64 f, .int .i64 t], .int .i64 n, .int .i64 c] w fun e' w' => e' = .returned (.bool true) ∧ Below w.heap.size w w' := by
  have HT := Lib.hid h
  have HFU := Lib.hid (fun w' => full_any p f t w')
  rw [h.err] at HFU
  have h1 : wi p 0 1000 = true := wi_iff.2 ⟨h.p0, h.p1⟩
  have h2 : wi f 1 5 = true := wi_iff.2 ⟨h.f0, h.f1⟩
  have h3 : wi t 6 40 = true := wi_iff.2 ⟨h.t0, h.t1⟩
  have h4 : wi (n : Int) 2 8 = true := wi_iff.2 (by omega)
  have h5 : wi c 1 7 = true := wi_iff.2 ⟨h.c0, h.c1⟩
  have bc0 := h.c0
  have bc1 := h.c1
  have HIE6 := Lib.hid (fun (v : World) a6 c6 (hp : PairsR v a6 4 (fuL p f t)) => impulseErr_any (fuL p f t) a6 4 c6 v hp)
  rw [h.ok] at HIE6
  have HIE9 := Lib.hid (fun (v : World) a9 N9 c9 (hp : PairsR v a9 N9 (cutL p f t c)) => impulseErr_any (cutL p f t c) a9 N9 c9 v hp)
  rw [h.valid] at HIE9
  have HFP := Lib.hid (fun (N : Nat) (hN : N ≤ 6) a6 c6 v => (show Calls Try.prog 17 #[.agg #[.slice a6 N c6]] v fun e' w' => e' = .returned (.bool true) ∧ Below v.heap.size v w' by
    have := fewPoints_any a6 N c6 v (by omega)
    rwa [show decide ((N : Int) ≤ 14) = true by simp; omega] at this))
  clear h
  have HW1 := Lib.hid (fun w' => bwithin_any p 0 1000 w')
  have HW2 := Lib.hid (fun w' => bwithin_any f 1 5 w')
  have HW3 := Lib.hid (fun w' => bwithin_any t 6 40 w')
  have HW4 := Lib.hid (fun w' => bwithin_any (n : Int) 2 8 w')
  have HW5 := Lib.hid (fun w' => bwithin_any c 1 7 w')
  rw [h1] at HW1
  rw [h2] at HW2
  rw [h3] at HW3
  rw [h4] at HW4
  rw [h5] at HW5
  clear h1 h2 h3 h4 h5
  go_enter Try.func4, Try.ntmps4
  go_wp2_with fail
  refine (topAwake_any _).mono ?_
  rintro e5 w5 ⟨rfl, hb5⟩
  have hz5 := hb5.size
  simp only [World.size_alloc] at hz5
  have q0 : w5.cell? ⟨w.heap.size, 0, none⟩ = some (.int .i64 p) := by { rw [cellB hb5 _ _ (by first | (simp; done) | (simp; omega) | omega)]; all_goals (first | assumption | go_simp) }; have q1 : w5.cell? ⟨w.heap.size, 1, none⟩ = some (.int .i64 f) := by { rw [cellB hb5 _ _ (by first | (simp; done) | (simp; omega) | omega)]; all_goals (first | assumption | go_simp) }; have q2 : w5.cell? ⟨w.heap.size, 2, none⟩ = some (.int .i64 t) := by { rw [cellB hb5 _ _ (by first | (simp; done) | (simp; omega) | omega)]; all_goals (first | assumption | go_simp) }; have l5 : w.heap.size < w5.heap.size := by { omega }
  have HB5 := Lib.hid (show Below w.heap.size w w5 by (repeat' (first | (with_reducible exact Below.refl _ _) | (with_reducible assumption) | (with_reducible refine Below.drewN ?_ _) | (with_reducible refine Below.alloc ?_ ?_ _) | (with_reducible refine Below.drew ?_) | (with_reducible refine Below.setCell ?_ ?_ _) | (with_reducible refine Below.step (by assumption) ?_ ?_) | (with_reducible exact And.left (by assumption)) | go_size)))
  clear hb5 hz5
  go_wp2_with fail
  refine (HW1.out _).mono ?_
  rintro e1 w1 ⟨rfl, rfl⟩
  go_wp2_with fail
  refine (HW2.out _).mono ?_
  rintro e1 w1 ⟨rfl, rfl⟩
  go_wp2_with fail
  refine (HW3.out _).mono ?_
  rintro e1 w1 ⟨rfl, rfl⟩
  go_wp2_with fail
  refine (HW4.out _).mono ?_
  rintro e1 w1 ⟨rfl, rfl⟩
  go_wp2_with fail
  refine (HW5.out _).mono ?_
  rintro e1 w1 ⟨rfl, rfl⟩
  clear HW1 HW2 HW3 HW4 HW5
  go_wp2_with fail
  refine (HFU.out _).mono ?_
  rintro e6 w6 ⟨a6, n6, c6, rfl, hb6, hp6⟩
  have hn6 : n6 = 4 := by have := hp6.len; rw [HT.out.full] at this; simpa using this.symm
  subst hn6
  have HP6 := Lib.hid hp6
  have HB6 := Lib.hid (HB5.out.trans (hb6.mono HB5.out.size))
  clear hp6 hb6 q0 q1 q2 l5
  go_wp2_with fail
  obtain ⟨X7, hX7⟩ : ∃ X, X = w6.heap.size := ⟨_, rfl⟩
  simp only [← hX7]
  generalize hW : World.alloc _ _ = w7 at *
  have hb7 : Below w6.heap.size w6 w7 := by rw [← hW]; (repeat' (first | (with_reducible exact Below.refl _ _) | (with_reducible assumption) | (with_reducible refine Below.drewN ?_ _) | (with_reducible refine Below.alloc ?_ ?_ _) | (with_reducible refine Below.drew ?_) | (with_reducible refine Below.setCell ?_ ?_ _) | (with_reducible refine Below.step (by assumption) ?_ ?_) | (with_reducible exact And.left (by assumption)) | go_size))
  have i7 : w7.cell? ⟨X7, 0, none⟩ = some (.slice a6 4 c6) := by { rw [← hW, hX7]; clear hW; go_simp }
  have l7 : X7 < w7.heap.size := by rw [← hW, hX7]; simp
  have HP7 := Lib.hid (HP6.out.below hb7)
  have HB7 := Lib.hid (HB6.out.trans (hb7.mono HB6.out.size))
  clear hW hb7 hX7
  refine (HFP.out 4 (by omega) _ _ _).mono ?_
  rintro e8 w8 ⟨rfl, hb8⟩
  have HX := Lib.hid (HIE6.out w8 a6 c6 (HP7.out.below hb8))
  have HP8 := Lib.hid (HP7.out.below hb8)
  have HB8 := Lib.hid (HB7.out.trans (hb8.mono HB7.out.size))
  have hz8 := hb8.size
  have i8 : w8.cell? ⟨X7, 0, none⟩ = some (.slice a6 4 c6) := by { rw [cellB hb8 _ _ (by first | (simp; done) | (simp; omega) | omega)]; all_goals (first | assumption | go_simp) }; have l8 : X7 < w8.heap.size := by { omega }
  clear hb8 i7 l7 hz8
  go_wp2_with fail
  refine HX.out.mono ?_
  rintro e9 w9 ⟨rfl, hb9⟩
  have HX := Lib.hid (copyImpulse_any (fuL p f t) a6 4 c6 w9 (HP8.out.below hb9) (by omega))
  have HB9 := Lib.hid (HB8.out.trans (hb9.mono HB8.out.size))
  have hz9 := hb9.size
  have i9 : w9.cell? ⟨X7, 0, none⟩ = some (.slice a6 4 c6) := by { rw [cellB hb9 _ _ (by first | (simp; done) | (simp; omega) | omega)]; all_goals (first | assumption | go_simp) }; have l9 : X7 < w9.heap.size := by { omega }
  clear hb9 i8 l8 hz9
  go_wp2_with fail
  refine HX.out.mono ?_
  rintro e10 w10 ⟨a10, c10, rfl, hb10, hp10⟩
  have HX := Lib.hid (chop_p p f t c HT.out a10 c10 w10 hp10)
  have HB10 := Lib.hid (HB9.out.trans (hb10.mono HB9.out.size))
  clear hb10 hp10 i9 l9 HP6 HP7 HP8
  go_wp2_with fail
  refine HX.out.mono ?_
  rintro e11 w11 ⟨a9, N9, c9, rfl, hb11, hp11, hN9⟩
  have HP11 := Lib.hid hp11
  have HB11 := Lib.hid (HB10.out.trans (hb11.mono HB10.out.size))
  clear hp11 hb11 HX
  go_wp2_with fail
  obtain ⟨X9, hX9⟩ : ∃ X, X = w11.heap.size := ⟨_, rfl⟩
  simp only [← hX9]
  generalize hW : World.alloc _ _ = w12 at *
  have hb12 : Below w11.heap.size w11 w12 := by rw [← hW]; (repeat' (first | (with_reducible exact Below.refl _ _) | (with_reducible assumption) | (with_reducible refine Below.drewN ?_ _) | (with_reducible refine Below.alloc ?_ ?_ _) | (with_reducible refine Below.drew ?_) | (with_reducible refine Below.setCell ?_ ?_ _) | (with_reducible refine Below.step (by assumption) ?_ ?_) | (with_reducible exact And.left (by assumption)) | go_size))
  have i12 : w12.cell? ⟨X9, 0, none⟩ = some (.slice a9 N9 c9) := by { rw [← hW, hX9]; clear hW; go_simp }
  have l912 : X9 < w12.heap.size := by rw [← hW, hX9]; simp
  have HP12 := Lib.hid (HP11.out.below hb12)
  have HB12 := Lib.hid (HB11.out.trans (hb12.mono HB11.out.size))
  clear hW hb12 hX9
  refine (HFP.out N9 hN9 _ _ _).mono ?_
  rintro e13 w13 ⟨rfl, hb13⟩
  have HX := Lib.hid (HIE9.out w13 a9 N9 c9 (HP12.out.below hb13))
  have HP13 := Lib.hid (HP12.out.below hb13)
  have hz13 := hb13.size
  have i13 : w13.cell? ⟨X9, 0, none⟩ = some (.slice a9 N9 c9) := by { rw [cellB hb13 _ _ (by first | (simp; done) | (simp; omega) | omega)]; all_goals (first | assumption | go_simp) }; have l913 : X9 < w13.heap.size := by { omega }
  have HB13 := Lib.hid (HB12.out.trans (hb13.mono HB12.out.size))
  clear hb13 hz13 i12 l912
  go_wp2_with fail
  refine HX.out.mono ?_
  rintro e14 w14 ⟨rfl, hb14⟩
  have HP14 := Lib.hid (HP13.out.below hb14)
  have hz14 := hb14.size
  have i14 : w14.cell? ⟨X9, 0, none⟩ = some (.slice a9 N9 c9) := by { rw [cellB hb14 _ _ (by first | (simp; done) | (simp; omega) | omega)]; all_goals (first | assumption | go_simp) }; have l914 : X9 < w14.heap.size := by { omega }
  have HB14 := Lib.hid (HB13.out.trans (hb14.mono HB13.out.size))
  clear hb14 hz14 i13 l913
  clear HX HIE6 HIE9 HFP HFU HP11 HP12 HP13
  go_wp2
  obtain ⟨X11, hX11⟩ : ∃ X, X = w14.heap.size := ⟨_, rfl⟩
  simp only [← hX11]
  generalize hW : w14.alloc _ = w15 at *
  have hb15 : Below w14.heap.size w14 w15 := by rw [← hW]; (repeat' (first | (with_reducible exact Below.refl _ _) | (with_reducible assumption) | (with_reducible refine Below.drewN ?_ _) | (with_reducible refine Below.alloc ?_ ?_ _) | (with_reducible refine Below.drew ?_) | (with_reducible refine Below.setCell ?_ ?_ _) | (with_reducible refine Below.step (by assumption) ?_ ?_) | (with_reducible exact And.left (by assumption)) | go_size))
  have j0 : w15.cell? ⟨X11, 0, none⟩ = some (.slice none 0 0) := by { rw [← hW, hX11]; clear hW; go_simp }
  have j1 : w15.cell? ⟨X11, 1, none⟩ = some (.bool true) := by { rw [← hW, hX11]; clear hW; go_simp }
  have jf : w15.frozen? ⟨X11, 0, none⟩ = false := by { rw [← hW, hX11]; clear hW; go_simp }
  have l1115 : X11 < w15.heap.size := by rw [← hW, hX11]; simp
  have hX9 : X9 < X11 := by omega
  have hwX : w.heap.size ≤ X11 := by have := HB14.out.size; omega
  have HX11 := Lib.hid hX11
  have HB1415 := Lib.hid hb15
  have HP15 := Lib.hid (HP14.out.below hb15)
  obtain ⟨B1, hB1⟩ : ∃ B, B = w15.heap.size := ⟨_, rfl⟩
  have hXB : X11 < B1 := by omega
  have HBB1 := Lib.hid hB1
  clear hW hX11 hB1
  have hz15 := hb15.size
  have i15 : w15.cell? ⟨X9, 0, none⟩ = some (.slice a9 N9 c9) := by { rw [cellB hb15 _ _ (by first | (simp; done) | (simp; omega) | omega)]; all_goals (first | assumption | go_simp) }; have l915 : X9 < w15.heap.size := by { omega }
  have HB15 := Lib.hid (HB14.out.trans (hb15.mono HB14.out.size))
  clear hb15 hz15 i14 l914
  go_loopw [12] (fun i wr => ∃ (k : Nat) (a : Option Addr) (cc : Nat), i = .int .i64 k ∧ k ≤ n ∧ wr.cell? ⟨X11, 0, none⟩ = some (.slice a k cc) ∧ wr.cell? ⟨X11, 1, none⟩ = some (.bool true) ∧ wr.frozen? ⟨X11, 0, none⟩ = false ∧ B1 ≤ wr.heap.size ∧ Hid (wr.ownsRow B1 3 1 (.slice a k cc) k (icells (ln3 k))) ∧ Hid (Below X11 w15 wr)) (fun i _ => n - (intOf i).toNat)
  case atStart => exact ⟨0, none, 0, rfl, Nat.zero_le _, j0, j1, jf, Nat.le_of_eq HBB1.out, Lib.hid (World.ownsRow_nil _ _ _ _), Lib.hid (Below.refl _ _)⟩
  case round =>
    clear j0 j1 jf
    obtain ⟨k, a11, c11, rfl, hk, j0, j1, jf, hBr, hO, hB⟩ := hrel
    obtain ⟨w16, rfl⟩ : ∃ w', w' = wr := ⟨wr, rfl⟩
    rcases Nat.lt_or_ge k n with hlt | hge
    · have HO16 := Lib.hid hO.out
      have HB16 := Lib.hid hB.out
      have k1 : (k : Int) < (n : Int) := by omega
      have l16 : X11 < w16.heap.size := by omega
      clear hO hB
      go_wp2_with (at_builtin; refine wpList_append_one _ rfl _ _ rfl B1 k w16.heap.size (.slice a11 k c11) _ (.int .i64 3) rfl (HO16.out.alloc _) rfl (by go_simp) rfl (by omega) (by simp; omega) ?_)
      intro v2 w17 hown hgr hat hb
      obtain ⟨a2, c2, rfl, _, _⟩ := owns_slice hown
      have hb17 : Below B1 w16 w17 := Below.trans (Below.alloc (Below.refl _ _) hBr _) hb
      have hz17 := hb17.size
      have j0' : w17.cell? ⟨X11, 0, none⟩ = some (.slice a11 k c11) := by { rw [cellB hb17 _ _ (by first | (simp; done) | (simp; omega) | omega)]; all_goals (first | assumption | go_simp) }; have j1' : w17.cell? ⟨X11, 1, none⟩ = some (.bool true) := by { rw [cellB hb17 _ _ (by first | (simp; done) | (simp; omega) | omega)]; all_goals (first | assumption | go_simp) }; have jf' : w17.frozen? ⟨X11, 0, none⟩ = false := by { rw [frozenB hb17 _ _ (by first | (simp; done) | (simp; omega) | omega)]; all_goals (first | assumption | go_simp) }; have l17 : X11 < w17.heap.size := by { omega }
      have HO17 := Lib.hid (show w17.ownsRow B1 3 1 (.slice a2 (k + 1) c2) (k + 1) (icells (ln3 (k + 1))) by
        have e : ln3 (k + 1) = ln3 k ++ [3] := by unfold ln3; rw [List.replicate_succ']
        rw [e, icells_append]; exact hown)
      have HB17 := Lib.hid (HB16.out.trans (hb17.mono (by omega)))
      clear hown hgr hat hb hb17 j0 j1 jf
      go_wp2
      go_roundw
      case rel => exact ⟨k + 1, a2, c2, by go_num, by omega, by go_simp, by go_simp, by simpa using jf', by simp; omega, Lib.hid (ownsRow_setCell_below HO17.out (a := ⟨X11, 0, none⟩) hXB _), Lib.hid (HB17.out.setCell (Nat.le_refl _) _)⟩
      case measure => simp [intOf]; omega
    · obtain rfl : n = k := by omega
      have HL16 := Lib.hid (show IntsR w16 a11 n (ln3 n) from SlR.of_owns hO.out)
      have HB16 := Lib.hid (HB15.out.trans (hB.out.mono hwX))
      have HP16 := Lib.hid (HP14.out.below (HB1415.out.trans (by rw [← HX11.out]; exact hB.out)))
      have i16 : w16.cell? ⟨X9, 0, none⟩ = some (.slice a9 N9 c9) := by rw [cellB hB.out _ _ hX9]; exact i15
      have l916 : X9 < w16.heap.size := by omega
      have l1116 : X11 < w16.heap.size := by omega
      clear hO hB i15 l915 HP14 HP15 HB15 HB1415 HX11 HBB1 hXB jf hBr
      go_wp2
      go_loopw [13, 14, 15] (fun v m i wr => ∃ (k : Nat) (a : Option Addr) (cc : Nat) (M : Int), i = .int .i64 k ∧ k ≤ n ∧ v = .slice a k cc ∧ m = .int .i64 M ∧ 0 ≤ M ∧ M ≤ 1000 ∧ Hid (wr.ownsRow w16.heap.size 3 1 (.slice a k cc) k (icells (srcs p f t c k))) ∧ Hid (Src M (srcs p f t c k)) ∧ Hid (Below w16.heap.size w16 wr)) (fun _ _ i _ => n - (intOf i).toNat)
      case atStart => exact ⟨0, none, 0, 0, rfl, Nat.zero_le _, rfl, rfl, by omega, by omega, Lib.hid (World.ownsRow_nil _ _ _ _), Lib.hid (fun i => by simp [srcs, g0]), Lib.hid (Below.refl _ _)⟩
      case round =>
        obtain ⟨k, a13, c13, M, rfl, hk, rfl, rfl, hM0, hM1, hO, hS, hB⟩ := hrel
        obtain ⟨w17, rfl⟩ : ∃ w', w' = wr := ⟨wr, rfl⟩
        have hz17 := hB.out.size
        have HB17 := Lib.hid hB.out
        have HO17 := Lib.hid hO.out
        have HS17 := Lib.hid hS.out
        have i17 : w17.cell? ⟨X9, 0, none⟩ = some (.slice a9 N9 c9) := by rw [cellB hB.out _ _ l916]; exact i16
        have j017 : w17.cell? ⟨X11, 0, none⟩ = some (.slice a11 n c11) := by rw [cellB hB.out _ _ l1116]; exact j0
        have j117 : w17.cell? ⟨X11, 1, none⟩ = some (.bool true) := by rw [cellB hB.out _ _ l1116]; exact j1
        have l917 : X9 < w17.heap.size := by omega
        have l1117 : X11 < w17.heap.size := by omega
        clear hO hS hB
        rcases Nat.lt_or_ge k n with hlt | hge
        · obtain ⟨⟨P, Q⟩, hPQ⟩ : ∃ x, tval p f t c k = x := ⟨_, rfl⟩
          have hv := HT.out.val k
          rw [hPQ] at hv
          obtain ⟨hP0, hP1, hQ0, hQ1, hgc⟩ := hv
          have hsm := HT.out.small k
          rw [hPQ] at hsm
          simp only at hP0 hP1 hQ0 hQ1 hgc
          have HCI := Lib.hid (copyImpulse_any (cutL p f t c) a9 N9 c9 w17 (HP16.out.below HB17.out) (by omega))
          have HVA := Lib.hid (fun (v : World) a' c' (hp : PairsR v a' N9 (cutL p f t c)) => (show Calls Try.prog 21 #[.agg #[.slice a' N9 c'], .int .i64 k] v fun e' w' => e' = .returned (.tuple #[.agg #[.int .i64 P, .int .i64 Q], .int .i64 0]) ∧ Below v.heap.size v w' by
            have := valueAt_ok (cutL p f t c) k a' N9 c' v hp HT.out.valid (wi_iff.2 (by omega))
            rw [show low (valOf (cutL p f t c) (k : Int)).1 (valOf (cutL p f t c) (k : Int)).2 = (P, Q) from hPQ, if_pos hsm] at this
            exact this))
          have HLW := Lib.hid (fun (v : World) => (show Calls Try.prog 22 #[.agg #[.int .i64 P, .int .i64 Q]] v fun e' w' => e' = .returned (.bool true) ∧ Below v.heap.size v w' by
            have := isLowest_any P Q v (by omega) (by omega) (by omega) (by omega)
            rwa [show (decide (Q > 0) && (gc P Q == 1)) = true by rw [hgc]; simp; omega] at this))
          have HWA := Lib.hid (fun (v : World) => bwithin_any P 0 (1000 * Q) v)
          have HWB := Lib.hid (fun (v : World) => bwithin_any Q 1 1000 v)
          rw [show wi P 0 (1000 * Q) = true from wi_iff.2 ⟨hP0, hP1⟩] at HWA
          rw [show wi Q 1 1000 = true from wi_iff.2 (by omega)] at HWB
          have HAF := Lib.hid (fun (h : c < (k : Int)) => (show P = 0 ∧ Q = 1 by
            have := HT.out.after k h
            rw [hPQ] at this
            exact ⟨congrArg Prod.fst this, congrArg Prod.snd this⟩))
          have HFL := Lib.hid (fun (v : World) => floor_pos P Q v (by omega) (by omega) (by omega) (by omega))
          have hdv := ediv_range hP0 hP1 (show 0 < Q by omega)
          have HSN := Lib.hid (show srcs p f t c (k + 1) = srcs p f t c k ++ [P / Q] by rw [srcs_next, hPQ])
          obtain ⟨V, hV⟩ : ∃ V, V = P / Q := ⟨_, rfl⟩
          rw [← hV] at HFL hdv HSN
          have k0 : (0 : Int) ≤ (k : Int) := by omega
          have k1 : (k : Int) < (n : Int) := by omega
          clear hPQ hsm hgc hV
          go_wp2_with fail
          refine HCI.out.mono ?_
          rintro e18 w18 ⟨a18, c18, rfl, hb18, hp18⟩
          have HX := Lib.hid (HVA.out w18 a18 c18 hp18)
          have HO18 := Lib.hid (owns_below HO17.out hb18 (fun q hq => (HO17.out.lt q hq).2))
          have HN18 := Lib.hid hb18
          clear hp18 hb18 HCI HVA
          go_wp2_with fail
          refine HX.out.mono ?_
          rintro e19 w19 ⟨rfl, hb19⟩
          have HO19 := Lib.hid (owns_below HO18.out hb19 (fun q hq => (HO18.out.lt q hq).2))
          have HN19 := Lib.hid (HN18.out.trans (hb19.mono HN18.out.size))
          clear hb19 HX HO18 HN18
          go_wp2_with fail
          obtain ⟨X16, hX16⟩ : ∃ X, X = w19.heap.size := ⟨_, rfl⟩
          simp only [← hX16]
          generalize hW : World.alloc _ _ = w20 at *
          have hb20 : Below w19.heap.size w19 w20 := by rw [← hW]; (repeat' (first | (with_reducible exact Below.refl _ _) | (with_reducible assumption) | (with_reducible refine Below.drewN ?_ _) | (with_reducible refine Below.alloc ?_ ?_ _) | (with_reducible refine Below.drew ?_) | (with_reducible refine Below.setCell ?_ ?_ _) | (with_reducible refine Below.step (by assumption) ?_ ?_) | (with_reducible exact And.left (by assumption)) | go_size))
          have y0 : w20.cell? ⟨X16, 0, none⟩ = some (.int .i64 P) := by { rw [← hW, hX16]; clear hW; go_simp }
          have y1 : w20.cell? ⟨X16, 1, none⟩ = some (.int .i64 Q) := by { rw [← hW, hX16]; clear hW; go_simp }
          have ly : X16 < w20.heap.size := by rw [← hW, hX16]; simp
          have HO20 := Lib.hid (owns_below HO19.out hb20 (fun q hq => (HO19.out.lt q hq).2))
          have HN20 := Lib.hid (HN19.out.trans (hb20.mono HN19.out.size))
          clear hW hb20 hX16 HO19 HN19
          refine (HLW.out _).mono ?_
          rintro e21 w21 ⟨rfl, hb21⟩
          have hz21 := hb21.size
          have y0' : w21.cell? ⟨X16, 0, none⟩ = some (.int .i64 P) := by { rw [cellB hb21 _ _ (by first | (simp; done) | (simp; omega) | omega)]; all_goals (first | assumption | go_simp) }; have y1' : w21.cell? ⟨X16, 1, none⟩ = some (.int .i64 Q) := by { rw [cellB hb21 _ _ (by first | (simp; done) | (simp; omega) | omega)]; all_goals (first | assumption | go_simp) }; have ly' : X16 < w21.heap.size := by { omega }
          have HO21 := Lib.hid (owns_below HO20.out hb21 (fun q hq => (HO20.out.lt q hq).2))
          have HN21 := Lib.hid (HN20.out.trans (hb21.mono HN20.out.size))
          clear hb21 y0 y1 ly HO20 HN20 HLW hz21
          go_wp2_with fail
          refine (HWA.out _).mono ?_
          rintro e1 w1 ⟨rfl, rfl⟩
          go_wp2_with fail
          refine (HWB.out _).mono ?_
          rintro e1 w1 ⟨rfl, rfl⟩
          clear HWA HWB
          go_upto_region 24 with fail
          go_cut [150] from 143 to 150 (fun v150 wx => v150 = .bool false ∧ Hid (Below w21.heap.size w21 wx))
          case first =>
            by_cases hkc : c < (k : Int)
            · obtain ⟨rfl, rfl⟩ := HAF.out hkc
              have hkc' : decide ((k : Int) > c) = true := by simpa using hkc
              refine later_all (by kernel_rfl) (by kernel_rfl) ?_; repeat go_big_quiet_step(refine calls_later (whole_any 0 _))
              refine wpQuiet_nil ?_; intro w22 hb22
              go_wp2_with fail
              go_meet
              case rel => exact ⟨rfl, Lib.hid hb22⟩
            · have hkc' : decide (c < (k : Int)) = false := by simpa using hkc
              refine later_all (by kernel_rfl) (by kernel_rfl) ?_; repeat go_big_quiet_step(fail)
              refine wpQuiet_nil ?_; intro w22 hb22
              go_wp2_with fail
              go_meet
              case rel => exact ⟨rfl, Lib.hid hb22⟩
          case rest =>
            obtain ⟨w22, rfl⟩ : ∃ w', w' = wc := ⟨wc, rfl⟩
            obtain ⟨rfl, hb⟩ := hcut
            have hb22 := hb.out
            have hz22 := hb22.size
            have y0 : w22.cell? ⟨X16, 0, none⟩ = some (.int .i64 P) := by { rw [cellB hb22 _ _ (by first | (simp; done) | (simp; omega) | omega)]; all_goals (first | assumption | go_simp) }; have y1 : w22.cell? ⟨X16, 1, none⟩ = some (.int .i64 Q) := by { rw [cellB hb22 _ _ (by first | (simp; done) | (simp; omega) | omega)]; all_goals (first | assumption | go_simp) }; have ly : X16 < w22.heap.size := by { omega }
            have HO22 := Lib.hid (owns_below HO21.out hb22 (fun q hq => (HO21.out.lt q hq).2))
            have HN22 := Lib.hid (HN21.out.trans (hb22.mono HN21.out.size))
            clear hb hb22 hz22 y0' y1' ly' HO21 HN21
            go_wp2_with fail
            refine (HFL.out _).mono ?_
            rintro e23 w23 ⟨rfl, rfl⟩
            go_wp2_with (at_builtin; refine wpList_append_one _ rfl _ _ rfl w16.heap.size k w22.heap.size (.slice a13 k c13) _ (.int .i64 V) rfl (HO22.out.alloc _) rfl (by go_simp) rfl (by omega) (by have := HN22.out.size; simp; omega) ?_)
            intro v2 w24 hown hgr hat hb
            obtain ⟨a2, c2, rfl, _, _⟩ := owns_slice hown
            obtain ⟨g2, rfl⟩ := owns_addr hown
            have hb24 : Below w16.heap.size w16 w24 := ((HB17.out.trans (HN22.out.mono hz17)).alloc (by have := HN22.out.size; omega) _).trans hb
            have cv : w24.cell? ⟨g2, k, none⟩ = some (.int .i64 V) := by
              have h := hown.cells (g := g2) rfl k (.int .i64 V) (by rw [List.getElem?_append_right (by rw [icells_length, srcs_len]; omega), icells_length, srcs_len, Nat.sub_self]; rfl)
              rwa [Addr.add_lit, Nat.zero_add] at h
            have HO24 := Lib.hid (show w24.ownsRow w16.heap.size 3 1 (.slice (some ⟨g2, 0, none⟩) (k + 1) c2) (k + 1) (icells (srcs p f t c (k + 1))) by rw [HSN.out, icells_append]; exact hown)
            have HB24 := Lib.hid hb24
            have HS24 := Lib.hid (show Src (max M V) (srcs p f t c (k + 1)) by rw [HSN.out]; exact src_next HS17.out hdv.1)
            have hmx : (if M < V then V else M) = max M V := by rw [Int.max_def]; split <;> split <;> omega
            have k2 : (k : Int) < (k : Int) + 1 := by omega
            clear hown hgr hat hb hb24 y0 y1 ly HO22 HN22
            go_wp2
            go_roundw
            case rel => exact ⟨k + 1, some ⟨g2, 0, none⟩, c2, max M V, by go_num, by omega, rfl, rfl, by omega, by omega, HO24, HS24, HB24⟩
            case measure => simp [intOf]; omega
        · obtain rfl : n = k := by omega
          have HSR := Lib.hid (show IntsR w17 a13 n (srcs p f t c n) from SlR.of_owns HO17.out)
          have hlen := srcs_len p f t c n
          obtain ⟨SR, hSR⟩ : ∃ l, l = srcs p f t c n := ⟨_, rfl⟩
          rw [← hSR] at HSR HS17 hlen
          have HB17w := Lib.hid (HB16.out.trans (HB17.out.mono HB16.out.size))
          have HL17 := Lib.hid (HL16.out.below HB17.out)
          have HLEN := Lib.hid hlen
          clear hSR hlen HB17 HB16 HO17 i17 HP16 i16 j0 j1 l917
          go_wp2_with fail
          refine (copyLine_any (ln3 n) a11 n c11 true w17 HL17.out (by omega)).mono ?_
          rintro e18 w18 ⟨al, cl, rfl, hb18, hl⟩
          have HX := Lib.hid (sbegin_ok (ln3 n) al n cl true w18 hl (ln3_ok hn2 hn8))
          have HN18 := Lib.hid hb18
          clear hb18 hl
          go_wp2_with fail
          refine HX.out.mono ?_
          rintro e19 w19 ⟨g1, g2, rfl, hb19, hs1, hs2⟩
          have HN19 := Lib.hid (HN18.out.trans (hb19.mono HN18.out.size))
          have HST := Lib.hid (And.intro hs1 hs2)
          clear hb19 hs1 hs2 HX HN18
          go_wp2
          obtain ⟨X18, hX18⟩ : ∃ X, X = w19.heap.size := ⟨_, rfl⟩
          simp only [← hX18]
          generalize hW : w19.alloc _ = w20 at *
          have hb20 : Below w19.heap.size w19 w20 := by rw [← hW]; (repeat' (first | (with_reducible exact Below.refl _ _) | (with_reducible assumption) | (with_reducible refine Below.drewN ?_ _) | (with_reducible refine Below.alloc ?_ ?_ _) | (with_reducible refine Below.drew ?_) | (with_reducible refine Below.setCell ?_ ?_ _) | (with_reducible refine Below.step (by assumption) ?_ ?_) | (with_reducible exact And.left (by assumption)) | go_size))
          have hxw : w20.heap[X18]? = some (.cells #[.slice (some ⟨g1, 0, none⟩) n n, .slice (some ⟨g2, 0, none⟩) n n] 67) := by rw [← hW, hX18]; exact heap_alloc_new _ _
          have lxw : X18 < w20.heap.size := by rw [← hW, hX18]; simp
          have h1718 : w17.heap.size ≤ X18 := by rw [hX18]; exact HN19.out.size
          have HN20 := Lib.hid (HN19.out.trans (hb20.mono HN19.out.size))
          have HST := Lib.hid (show IntsR w20 (some ⟨g1, 0, none⟩) n (wv SR n 0) ∧ IntsR w20 (some ⟨g2, 0, none⟩) n (List.replicate n 0) by rw [wv_zero]; exact ⟨SlR.below HST.out.1 hb20, SlR.below HST.out.2 hb20⟩)
          have hz17w := HB17w.out.size
          clear hW hX18 hb20 HN19
          go_loopw [20] (fun i wr => ∃ (k : Nat) (a7 a8 : Option Addr) (c7 c8 : Nat), i = .int .i64 k ∧ k ≤ n ∧ wr.heap[X18]? = some (.cells #[.slice a7 n c7, .slice a8 n c8] 67) ∧ X18 < wr.heap.size ∧ Hid (IntsR wr a7 n (wv SR n k) ∧ IntsR wr a8 n (List.replicate n 0)) ∧ Hid (Below X18 w20 wr)) (fun i _ => n - (intOf i).toNat)
          case atStart => exact ⟨0, _, _, _, _, rfl, Nat.zero_le _, hxw, lxw, HST, Lib.hid (Below.refl _ _)⟩
          case round =>
            clear HST hxw lxw
            obtain ⟨k, a7, a8, c7, c8, rfl, hk, hxw, lxw, HST, hBr⟩ := hrel
            obtain ⟨w21, rfl⟩ : ∃ w', w' = wr := ⟨wr, rfl⟩
            have HB1721 := Lib.hid (HN20.out.trans (hBr.out.mono h1718))
            have j021 : w21.cell? ⟨X11, 0, none⟩ = some (.slice a11 n c11) := by rw [cellB HB1721.out _ _ l1117]; exact j017
            have j121 : w21.cell? ⟨X11, 1, none⟩ = some (.bool true) := by rw [cellB HB1721.out _ _ l1117]; exact j117
            have lX11 : X11 < w21.heap.size := by omega
            have HBr := Lib.hid hBr.out
            have HL21 := Lib.hid (HL17.out.below HB1721.out)
            have HSR21 := Lib.hid (HSR.out.below HB1721.out)
            have d0 := cell_of_row _ _ 0 _ _ _ hxw
            have d1 := cell_of_row _ _ 1 _ _ _ hxw
            have g0_ := frozen_of_row _ _ 0 _ _ hxw
            have g1_ := frozen_of_row _ _ 1 _ _ hxw
            simp only [List.getElem?_toArray, List.getElem?_cons_zero, List.getElem?_cons_succ] at d0 d1
            clear hBr
            rcases Nat.lt_or_ge k n with hlt | hge
            · obtain ⟨b13, o13, rfl, hb13, hc13⟩ := HSR21.out.addr (by omega)
              have c13k := hc13 k hlt
              obtain ⟨sk, hsk⟩ : ∃ x, x = g0 SR k := ⟨_, rfl⟩
              rw [show SR.getD k 0 = sk from hsk.symm] at c13k
              have HS1000 := Lib.hid (show Src 1000 SR from fun i => by have := HS17.out i; omega)
              have HSTP := Lib.hid (fun al a5 a6 cl c5 c6 v hy h5 h6 => trav_step (k := k) hn2 hn8 HS1000.out hlt al a5 a6 cl c5 c6 v hy h5 h6)
              rw [← hsk] at HSTP
              have HSK := Lib.hid hsk
              have HC13 := Lib.hid hc13
              have k0 : (0 : Int) ≤ (k : Int) := by omega
              have k1 : (k : Int) < (n : Int) := by omega
              clear hsk hc13
              go_wp2_with fail
              go_cut [21, 22, 23] from 178 to 190 (fun v21 v22 v23 wx => ∃ (X g1 g2 av cv : Nat), v21 = .pointer (some ⟨X, 0, none⟩) ∧ v22 = .slice (some ⟨av, 0, none⟩) (n + 1) cv ∧ v23 = .int .i64 0 ∧ Hid (wx.heap[X]? = some (.cells #[.slice (some ⟨g1, 0, none⟩) n n, .slice (some ⟨g2, 0, none⟩) n n] 67)) ∧ Hid (IntsR wx (some ⟨g1, 0, none⟩) n (wv SR n (k + 1))) ∧ Hid (IntsR wx (some ⟨g2, 0, none⟩) n (List.replicate n 0)) ∧ Hid (IntsR wx (some ⟨av, 0, none⟩) (n + 1) (outV (ln3 n) (wv SR n k) (List.replicate n 0) sk true)) ∧ w21.heap.size ≤ X ∧ Hid (Below w21.heap.size w21 wx))
              case first =>
                have HN := Lib.hid (Below.refl w21.heap.size w21).drew
                refine wp_region_laterT (B := w21.heap.size) (.head 0 (.head 2 (.head 4 (.head 5 (.head 6 (.head 7 (.two 1 (.two 3 (.two 8 (.head 9 (.head 10 (.head 11 (.head 12 (.one 13 (.one 14 (.head 15 (.head 16 .done)))))))) 13 (.one 8 (.head 9 (.head 10 (.head 11 (.head 12 (.one 14 (.head 15 (.head 16 .done))))))))) 13 (.one 3 (.one 8 (.head 9 (.head 10 (.head 11 (.head 12 (.one 14 (.head 15 (.head 16 .done)))))))))) 13 (.one 1 (.one 3 (.one 8 (.head 9 (.head 10 (.head 11 (.head 12 (.one 14 (.head 15 (.head 16 .done))))))))))))))))) (by kernel_rfl) (by kernel_rfl) ?_
                repeat (refine tree_head rfl ?_; (show wpQuiet _ _ _ _ (_ :: _) _; go_big_quiet_step (fail)); refine wpQuiet_nil ?_)
                refine tree_two rfl rfl ?_ ?_
                · go_wp2_with fail
                  refine (copyLine_any (ln3 n) a11 n c11 true _ (HL21.out.below HN.out) (by omega)).mono ?_
                  rintro ex wx1 ⟨al, cl, rfl, hbx, hl⟩
                  have HAL := Lib.hid hl
                  clear hl
                  have hzx := hbx.size
                  have HN := Lib.hid (HN.out.trans (hbx.mono HN.out.size))
                  clear hbx
                  go_wp2_with fail
                  refine tailL_mk HN.out ?_
                  repeat (refine tree_head rfl ?_; (show wpQuiet _ _ _ _ (_ :: _) _; go_big_quiet_step (fail)); refine wpQuiet_nil ?_)
                  refine tree_two rfl rfl ?_ ?_
                  · go_wp2_with fail
                    refine (copyState_any (wv SR n k) (List.replicate n 0) a7 a8 n c7 n c8 _ (HST.out.1.below HN.out) (HST.out.2.below HN.out) (by omega) (by omega)).mono ?_
                    rintro ex wx2 ⟨a5, c5, a6, c6, rfl, hbx, h5, h6⟩
                    have HA5 := Lib.hid h5
                    have HA6 := Lib.hid h6
                    clear h5 h6
                    have hzx := hbx.size
                    have HN := Lib.hid (HN.out.trans (hbx.mono HN.out.size))
                    have HAL := Lib.hid (HAL.out.below hbx)
                    clear hbx
                    go_wp2_with fail
                    refine tailL_mk HN.out ?_
                    repeat (refine tree_head rfl ?_; (show wpQuiet _ _ _ _ (_ :: _) _; go_big_quiet_step (fail)); refine wpQuiet_nil ?_)
                    refine tree_two rfl rfl ?_ ?_
                    · go_wp2_with fail
                      refine (HSTP.out al a5 a6 cl c5 c6 _ HAL.out HA5.out HA6.out).mono ?_
                      rintro ex wx3 ⟨hbx, g1, g2, av, cv, rfl, o1, o2, o3⟩
                      have HO1 := Lib.hid o1
                      have HO2 := Lib.hid o2
                      have HO3 := Lib.hid o3
                      clear o1 o2 o3
                      have hzx := hbx.size
                      have HN := Lib.hid (HN.out.trans (hbx.mono HN.out.size))
                      have HAL := Lib.hid (HAL.out.below hbx)
                      have HA5 := Lib.hid (HA5.out.below hbx)
                      have HA6 := Lib.hid (HA6.out.below hbx)
                      clear hbx
                      go_wp2_with fail
                      refine tailL_mk HN.out ?_
                      repeat (refine tree_head rfl ?_; (show wpQuiet _ _ _ _ (_ :: _) _; go_big_quiet_step (fail)); refine wpQuiet_nil ?_)
                      refine tree_one rfl ?_
                      go_wp2_with fail
                      obtain ⟨X9, hX9⟩ : ∃ X, X = wx3.heap.size := ⟨_, rfl⟩
                      have hNX : w21.heap.size ≤ X9 := by rw [hX9]; exact HN.out.size
                      have hx9 : (wx3.alloc (Obj.cells #[.slice none 0 0, .slice none 0 0] 67)).heap[X9]? = some (.cells #[.slice none 0 0, .slice none 0 0] 67) := by rw [hX9]; exact heap_alloc_new _ _
                      have l9 : X9 < (wx3.alloc (Obj.cells #[.slice none 0 0, .slice none 0 0] 67)).heap.size := by rw [hX9]; simp
                      have hs9 : (wx3.alloc (Obj.cells #[.slice none 0 0, .slice none 0 0] 67)).heap.size = wx3.heap.size + 1 := by simp
                      have hbx : Below wx3.heap.size wx3 (wx3.alloc (Obj.cells #[.slice none 0 0, .slice none 0 0] 67)) := by (repeat' (first | (with_reducible exact Below.refl _ _) | (with_reducible assumption) | (with_reducible refine Below.drewN ?_ _) | (with_reducible refine Below.alloc ?_ ?_ _) | (with_reducible refine Below.drew ?_) | (with_reducible refine Below.setCell ?_ ?_ _) | (with_reducible refine Below.step (by assumption) ?_ ?_) | (with_reducible exact And.left (by assumption)) | go_size))
                      try simp only [← hX9]
                      generalize (wx3.alloc (Obj.cells #[.slice none 0 0, .slice none 0 0] 67)) = wx4 at *
                      have HX9 := Lib.hid (And.intro hX9 hs9)
                      have HN := Lib.hid (HN.out.trans (hbx.mono HN.out.size))
                      have HAL := Lib.hid (HAL.out.below hbx)
                      have HA5 := Lib.hid (HA5.out.below hbx)
                      have HA6 := Lib.hid (HA6.out.below hbx)
                      have HO1 := Lib.hid (HO1.out.below hbx)
                      have HO2 := Lib.hid (HO2.out.below hbx)
                      have HO3 := Lib.hid (HO3.out.below hbx)
                      clear hbx hX9 hs9
                      refine tailL_mk HN.out ?_
                      repeat (refine tree_head rfl ?_; (show wpQuiet _ _ _ _ (_ :: _) _; go_big_quiet_step (fail)); refine wpQuiet_nil ?_)
                      refine tree_one rfl ?_
                      have c90 := cell_of_row _ _ 0 _ _ _ hx9
                      have f90 := frozen_of_row _ _ 0 _ _ hx9
                      have c91 := cell_of_row _ _ 1 _ _ _ hx9
                      have f91 := frozen_of_row _ _ 1 _ _ hx9
                      simp only [List.getElem?_toArray, List.getElem?_cons_zero, List.getElem?_cons_succ] at c90 c91
                      go_wp2_with fail
                      have HN := Lib.hid (show Below w21.heap.size w21 ((wx4.setCell ⟨X9, 0, none⟩ (.slice (some ⟨g1, 0, none⟩) n n)).setCell ⟨X9, 1, none⟩ (.slice (some ⟨g2, 0, none⟩) n n)) from Below.setCell (Below.setCell (HN.out) hNX _) hNX _)
                      have hxo := hx9
                      have hx9 : ((wx4.setCell ⟨X9, 0, none⟩ (.slice (some ⟨g1, 0, none⟩) n n)).setCell ⟨X9, 1, none⟩ (.slice (some ⟨g2, 0, none⟩) n n)).heap[X9]? = some (.cells #[.slice (some ⟨g1, 0, none⟩) n n, .slice (some ⟨g2, 0, none⟩) n n] 67) := blk_set (blk_set (hx9) 0 (.slice (some ⟨g1, 0, none⟩) n n)) 1 (.slice (some ⟨g2, 0, none⟩) n n)
                      refine tailL_mk HN.out ?_
                      repeat (refine tree_head rfl ?_; (show wpQuiet _ _ _ _ (_ :: _) _; go_big_quiet_step (fail)); refine wpQuiet_nil ?_)
                      refine tree_done ?_
                      go_wp2_with fail
                      have hkp : ∀ b, b ≠ X9 → ((wx4.setCell ⟨X9, 0, none⟩ (.slice (some ⟨g1, 0, none⟩) n n)).setCell ⟨X9, 1, none⟩ (.slice (some ⟨g2, 0, none⟩) n n)).heap[b]? = wx4.heap[b]? := fun b hb => by rw [Go.Deep.blk_setCell_other _ _ _ _ (by simpa using hb), Go.Deep.blk_setCell_other _ _ _ _ (by simpa using hb)]
                      have hks : wx4.heap.size ≤ ((wx4.setCell ⟨X9, 0, none⟩ (.slice (some ⟨g1, 0, none⟩) n n)).setCell ⟨X9, 1, none⟩ (.slice (some ⟨g2, 0, none⟩) n n)).heap.size := by simp
                      have HO1 := Lib.hid (ints_kept HO1.out hxo (two_slices _ _ _ _ _ _) hks hkp)
                      have HO2 := Lib.hid (ints_kept HO2.out hxo (two_slices _ _ _ _ _ _) hks hkp)
                      have HO3 := Lib.hid (ints_kept HO3.out hxo (two_slices _ _ _ _ _ _) hks hkp)
                      go_meet
                      case rel => exact ⟨X9, g1, g2, av, cv, rfl, rfl, rfl, Lib.hid hx9, HO1, HO2, HO3, hNX, HN⟩
                    · go_wp2_with fail
                      obtain ⟨X9, hX9⟩ : ∃ X, X = wx2.heap.size := ⟨_, rfl⟩
                      have hNX : w21.heap.size ≤ X9 := by rw [hX9]; exact HN.out.size
                      have hx9 : (wx2.alloc (Obj.cells #[.slice none 0 0, .slice none 0 0] 67)).heap[X9]? = some (.cells #[.slice none 0 0, .slice none 0 0] 67) := by rw [hX9]; exact heap_alloc_new _ _
                      have l9 : X9 < (wx2.alloc (Obj.cells #[.slice none 0 0, .slice none 0 0] 67)).heap.size := by rw [hX9]; simp
                      have hs9 : (wx2.alloc (Obj.cells #[.slice none 0 0, .slice none 0 0] 67)).heap.size = wx2.heap.size + 1 := by simp
                      have hbx : Below wx2.heap.size wx2 (wx2.alloc (Obj.cells #[.slice none 0 0, .slice none 0 0] 67)) := by (repeat' (first | (with_reducible exact Below.refl _ _) | (with_reducible assumption) | (with_reducible refine Below.drewN ?_ _) | (with_reducible refine Below.alloc ?_ ?_ _) | (with_reducible refine Below.drew ?_) | (with_reducible refine Below.setCell ?_ ?_ _) | (with_reducible refine Below.step (by assumption) ?_ ?_) | (with_reducible exact And.left (by assumption)) | go_size))
                      try simp only [← hX9]
                      generalize (wx2.alloc (Obj.cells #[.slice none 0 0, .slice none 0 0] 67)) = wx6 at *
                      have HX9 := Lib.hid (And.intro hX9 hs9)
                      have HN := Lib.hid (HN.out.trans (hbx.mono HN.out.size))
                      have HAL := Lib.hid (HAL.out.below hbx)
                      have HA5 := Lib.hid (HA5.out.below hbx)
                      have HA6 := Lib.hid (HA6.out.below hbx)
                      clear hbx hX9 hs9
                      refine tailL_mk HN.out ?_
                      repeat (refine tree_head rfl ?_; (show wpQuiet _ _ _ _ (_ :: _) _; go_big_quiet_step (fail)); refine wpQuiet_nil ?_)
                      refine tree_one rfl ?_
                      go_wp2_with fail
                      refine (HSTP.out al a5 a6 cl c5 c6 _ HAL.out HA5.out HA6.out).mono ?_
                      rintro ex wx7 ⟨hbx, g1, g2, av, cv, rfl, o1, o2, o3⟩
                      have HO1 := Lib.hid o1
                      have HO2 := Lib.hid o2
                      have HO3 := Lib.hid o3
                      clear o1 o2 o3
                      have hzx := hbx.size
                      have HN := Lib.hid (HN.out.trans (hbx.mono HN.out.size))
                      have HAL := Lib.hid (HAL.out.below hbx)
                      have HA5 := Lib.hid (HA5.out.below hbx)
                      have HA6 := Lib.hid (HA6.out.below hbx)
                      have hx9 := (hbx.block X9 l9).trans hx9
                      have l9 := Nat.lt_of_lt_of_le l9 hbx.size
                      clear hbx
                      go_wp2_with fail
                      refine tailL_mk HN.out ?_
                      repeat (refine tree_head rfl ?_; (show wpQuiet _ _ _ _ (_ :: _) _; go_big_quiet_step (fail)); refine wpQuiet_nil ?_)
                      refine tree_one rfl ?_
                      have c90 := cell_of_row _ _ 0 _ _ _ hx9
                      have f90 := frozen_of_row _ _ 0 _ _ hx9
                      have c91 := cell_of_row _ _ 1 _ _ _ hx9
                      have f91 := frozen_of_row _ _ 1 _ _ hx9
                      simp only [List.getElem?_toArray, List.getElem?_cons_zero, List.getElem?_cons_succ] at c90 c91
                      go_wp2_with fail
                      have HN := Lib.hid (show Below w21.heap.size w21 ((wx7.setCell ⟨X9, 0, none⟩ (.slice (some ⟨g1, 0, none⟩) n n)).setCell ⟨X9, 1, none⟩ (.slice (some ⟨g2, 0, none⟩) n n)) from Below.setCell (Below.setCell (HN.out) hNX _) hNX _)
                      have hxo := hx9
                      have hx9 : ((wx7.setCell ⟨X9, 0, none⟩ (.slice (some ⟨g1, 0, none⟩) n n)).setCell ⟨X9, 1, none⟩ (.slice (some ⟨g2, 0, none⟩) n n)).heap[X9]? = some (.cells #[.slice (some ⟨g1, 0, none⟩) n n, .slice (some ⟨g2, 0, none⟩) n n] 67) := blk_set (blk_set (hx9) 0 (.slice (some ⟨g1, 0, none⟩) n n)) 1 (.slice (some ⟨g2, 0, none⟩) n n)
                      refine tailL_mk HN.out ?_
                      repeat (refine tree_head rfl ?_; (show wpQuiet _ _ _ _ (_ :: _) _; go_big_quiet_step (fail)); refine wpQuiet_nil ?_)
                      refine tree_done ?_
                      go_wp2_with fail
                      have hkp : ∀ b, b ≠ X9 → ((wx7.setCell ⟨X9, 0, none⟩ (.slice (some ⟨g1, 0, none⟩) n n)).setCell ⟨X9, 1, none⟩ (.slice (some ⟨g2, 0, none⟩) n n)).heap[b]? = wx7.heap[b]? := fun b hb => by rw [Go.Deep.blk_setCell_other _ _ _ _ (by simpa using hb), Go.Deep.blk_setCell_other _ _ _ _ (by simpa using hb)]
                      have hks : wx7.heap.size ≤ ((wx7.setCell ⟨X9, 0, none⟩ (.slice (some ⟨g1, 0, none⟩) n n)).setCell ⟨X9, 1, none⟩ (.slice (some ⟨g2, 0, none⟩) n n)).heap.size := by simp
                      have HO1 := Lib.hid (ints_kept HO1.out hxo (two_slices _ _ _ _ _ _) hks hkp)
                      have HO2 := Lib.hid (ints_kept HO2.out hxo (two_slices _ _ _ _ _ _) hks hkp)
                      have HO3 := Lib.hid (ints_kept HO3.out hxo (two_slices _ _ _ _ _ _) hks hkp)
                      go_meet
                      case rel => exact ⟨X9, g1, g2, av, cv, rfl, rfl, rfl, Lib.hid hx9, HO1, HO2, HO3, hNX, HN⟩
                  · go_wp2_with fail
                    obtain ⟨X9, hX9⟩ : ∃ X, X = wx1.heap.size := ⟨_, rfl⟩
                    have hNX : w21.heap.size ≤ X9 := by rw [hX9]; exact HN.out.size
                    have hx9 : (wx1.alloc (Obj.cells #[.slice none 0 0, .slice none 0 0] 67)).heap[X9]? = some (.cells #[.slice none 0 0, .slice none 0 0] 67) := by rw [hX9]; exact heap_alloc_new _ _
                    have l9 : X9 < (wx1.alloc (Obj.cells #[.slice none 0 0, .slice none 0 0] 67)).heap.size := by rw [hX9]; simp
                    have hs9 : (wx1.alloc (Obj.cells #[.slice none 0 0, .slice none 0 0] 67)).heap.size = wx1.heap.size + 1 := by simp
                    have hbx : Below wx1.heap.size wx1 (wx1.alloc (Obj.cells #[.slice none 0 0, .slice none 0 0] 67)) := by (repeat' (first | (with_reducible exact Below.refl _ _) | (with_reducible assumption) | (with_reducible refine Below.drewN ?_ _) | (with_reducible refine Below.alloc ?_ ?_ _) | (with_reducible refine Below.drew ?_) | (with_reducible refine Below.setCell ?_ ?_ _) | (with_reducible refine Below.step (by assumption) ?_ ?_) | (with_reducible exact And.left (by assumption)) | go_size))
                    try simp only [← hX9]
                    generalize (wx1.alloc (Obj.cells #[.slice none 0 0, .slice none 0 0] 67)) = wx9 at *
                    have HX9 := Lib.hid (And.intro hX9 hs9)
                    have HN := Lib.hid (HN.out.trans (hbx.mono HN.out.size))
                    have HAL := Lib.hid (HAL.out.below hbx)
                    clear hbx hX9 hs9
                    refine tailL_mk HN.out ?_
                    repeat (refine tree_head rfl ?_; (show wpQuiet _ _ _ _ (_ :: _) _; go_big_quiet_step (fail)); refine wpQuiet_nil ?_)
                    refine tree_one rfl ?_
                    go_wp2_with fail
                    refine (copyState_any (wv SR n k) (List.replicate n 0) a7 a8 n c7 n c8 _ (HST.out.1.below HN.out) (HST.out.2.below HN.out) (by omega) (by omega)).mono ?_
                    rintro ex wx10 ⟨a5, c5, a6, c6, rfl, hbx, h5, h6⟩
                    have HA5 := Lib.hid h5
                    have HA6 := Lib.hid h6
                    clear h5 h6
                    have hzx := hbx.size
                    have HN := Lib.hid (HN.out.trans (hbx.mono HN.out.size))
                    have HAL := Lib.hid (HAL.out.below hbx)
                    have hx9 := (hbx.block X9 l9).trans hx9
                    have l9 := Nat.lt_of_lt_of_le l9 hbx.size
                    clear hbx
                    go_wp2_with fail
                    refine tailL_mk HN.out ?_
                    repeat (refine tree_head rfl ?_; (show wpQuiet _ _ _ _ (_ :: _) _; go_big_quiet_step (fail)); refine wpQuiet_nil ?_)
                    refine tree_one rfl ?_
                    go_wp2_with fail
                    refine (HSTP.out al a5 a6 cl c5 c6 _ HAL.out HA5.out HA6.out).mono ?_
                    rintro ex wx11 ⟨hbx, g1, g2, av, cv, rfl, o1, o2, o3⟩
                    have HO1 := Lib.hid o1
                    have HO2 := Lib.hid o2
                    have HO3 := Lib.hid o3
                    clear o1 o2 o3
                    have hzx := hbx.size
                    have HN := Lib.hid (HN.out.trans (hbx.mono HN.out.size))
                    have HAL := Lib.hid (HAL.out.below hbx)
                    have HA5 := Lib.hid (HA5.out.below hbx)
                    have HA6 := Lib.hid (HA6.out.below hbx)
                    have hx9 := (hbx.block X9 l9).trans hx9
                    have l9 := Nat.lt_of_lt_of_le l9 hbx.size
                    clear hbx
                    go_wp2_with fail
                    refine tailL_mk HN.out ?_
                    repeat (refine tree_head rfl ?_; (show wpQuiet _ _ _ _ (_ :: _) _; go_big_quiet_step (fail)); refine wpQuiet_nil ?_)
                    refine tree_one rfl ?_
                    have c90 := cell_of_row _ _ 0 _ _ _ hx9
                    have f90 := frozen_of_row _ _ 0 _ _ hx9
                    have c91 := cell_of_row _ _ 1 _ _ _ hx9
                    have f91 := frozen_of_row _ _ 1 _ _ hx9
                    simp only [List.getElem?_toArray, List.getElem?_cons_zero, List.getElem?_cons_succ] at c90 c91
                    go_wp2_with fail
                    have HN := Lib.hid (show Below w21.heap.size w21 ((wx11.setCell ⟨X9, 0, none⟩ (.slice (some ⟨g1, 0, none⟩) n n)).setCell ⟨X9, 1, none⟩ (.slice (some ⟨g2, 0, none⟩) n n)) from Below.setCell (Below.setCell (HN.out) hNX _) hNX _)
                    have hxo := hx9
                    have hx9 : ((wx11.setCell ⟨X9, 0, none⟩ (.slice (some ⟨g1, 0, none⟩) n n)).setCell ⟨X9, 1, none⟩ (.slice (some ⟨g2, 0, none⟩) n n)).heap[X9]? = some (.cells #[.slice (some ⟨g1, 0, none⟩) n n, .slice (some ⟨g2, 0, none⟩) n n] 67) := blk_set (blk_set (hx9) 0 (.slice (some ⟨g1, 0, none⟩) n n)) 1 (.slice (some ⟨g2, 0, none⟩) n n)
                    refine tailL_mk HN.out ?_
                    repeat (refine tree_head rfl ?_; (show wpQuiet _ _ _ _ (_ :: _) _; go_big_quiet_step (fail)); refine wpQuiet_nil ?_)
                    refine tree_done ?_
                    go_wp2_with fail
                    have hkp : ∀ b, b ≠ X9 → ((wx11.setCell ⟨X9, 0, none⟩ (.slice (some ⟨g1, 0, none⟩) n n)).setCell ⟨X9, 1, none⟩ (.slice (some ⟨g2, 0, none⟩) n n)).heap[b]? = wx11.heap[b]? := fun b hb => by rw [Go.Deep.blk_setCell_other _ _ _ _ (by simpa using hb), Go.Deep.blk_setCell_other _ _ _ _ (by simpa using hb)]
                    have hks : wx11.heap.size ≤ ((wx11.setCell ⟨X9, 0, none⟩ (.slice (some ⟨g1, 0, none⟩) n n)).setCell ⟨X9, 1, none⟩ (.slice (some ⟨g2, 0, none⟩) n n)).heap.size := by simp
                    have HO1 := Lib.hid (ints_kept HO1.out hxo (two_slices _ _ _ _ _ _) hks hkp)
                    have HO2 := Lib.hid (ints_kept HO2.out hxo (two_slices _ _ _ _ _ _) hks hkp)
                    have HO3 := Lib.hid (ints_kept HO3.out hxo (two_slices _ _ _ _ _ _) hks hkp)
                    go_meet
                    case rel => exact ⟨X9, g1, g2, av, cv, rfl, rfl, rfl, Lib.hid hx9, HO1, HO2, HO3, hNX, HN⟩
                · go_wp2_with fail
                  obtain ⟨X9, hX9⟩ : ∃ X, X = w21.heap.size := ⟨_, rfl⟩
                  have hNX : w21.heap.size ≤ X9 := by rw [hX9]; exact HN.out.size
                  have hx9 : (w21.alloc (Obj.cells #[.slice none 0 0, .slice none 0 0] 67)).drew.heap[X9]? = some (.cells #[.slice none 0 0, .slice none 0 0] 67) := by rw [hX9]; exact heap_alloc_new _ _
                  have l9 : X9 < (w21.alloc (Obj.cells #[.slice none 0 0, .slice none 0 0] 67)).drew.heap.size := by rw [hX9]; simp
                  have hs9 : (w21.alloc (Obj.cells #[.slice none 0 0, .slice none 0 0] 67)).drew.heap.size = w21.heap.size + 1 := by simp
                  have hbx : Below w21.heap.size w21 (w21.alloc (Obj.cells #[.slice none 0 0, .slice none 0 0] 67)).drew := by (repeat' (first | (with_reducible exact Below.refl _ _) | (with_reducible assumption) | (with_reducible refine Below.drewN ?_ _) | (with_reducible refine Below.alloc ?_ ?_ _) | (with_reducible refine Below.drew ?_) | (with_reducible refine Below.setCell ?_ ?_ _) | (with_reducible refine Below.step (by assumption) ?_ ?_) | (with_reducible exact And.left (by assumption)) | go_size))
                  try simp only [← hX9]
                  generalize (w21.alloc (Obj.cells #[.slice none 0 0, .slice none 0 0] 67)).drew = wx13 at *
                  have HX9 := Lib.hid (And.intro hX9 hs9)
                  have HN := Lib.hid hbx
                  clear hbx hX9 hs9
                  refine tailL_mk HN.out ?_
                  repeat (refine tree_head rfl ?_; (show wpQuiet _ _ _ _ (_ :: _) _; go_big_quiet_step (fail)); refine wpQuiet_nil ?_)
                  refine tree_one rfl ?_
                  go_wp2_with fail
                  refine (copyLine_any (ln3 n) a11 n c11 true _ (HL21.out.below HN.out) (by omega)).mono ?_
                  rintro ex wx14 ⟨al, cl, rfl, hbx, hl⟩
                  have HAL := Lib.hid hl
                  clear hl
                  have hzx := hbx.size
                  have HN := Lib.hid (HN.out.trans (hbx.mono HN.out.size))
                  have hx9 := (hbx.block X9 l9).trans hx9
                  have l9 := Nat.lt_of_lt_of_le l9 hbx.size
                  clear hbx
                  go_wp2_with fail
                  refine tailL_mk HN.out ?_
                  repeat (refine tree_head rfl ?_; (show wpQuiet _ _ _ _ (_ :: _) _; go_big_quiet_step (fail)); refine wpQuiet_nil ?_)
                  refine tree_one rfl ?_
                  go_wp2_with fail
                  refine (copyState_any (wv SR n k) (List.replicate n 0) a7 a8 n c7 n c8 _ (HST.out.1.below HN.out) (HST.out.2.below HN.out) (by omega) (by omega)).mono ?_
                  rintro ex wx15 ⟨a5, c5, a6, c6, rfl, hbx, h5, h6⟩
                  have HA5 := Lib.hid h5
                  have HA6 := Lib.hid h6
                  clear h5 h6
                  have hzx := hbx.size
                  have HN := Lib.hid (HN.out.trans (hbx.mono HN.out.size))
                  have HAL := Lib.hid (HAL.out.below hbx)
                  have hx9 := (hbx.block X9 l9).trans hx9
                  have l9 := Nat.lt_of_lt_of_le l9 hbx.size
                  clear hbx
                  go_wp2_with fail
                  refine tailL_mk HN.out ?_
                  repeat (refine tree_head rfl ?_; (show wpQuiet _ _ _ _ (_ :: _) _; go_big_quiet_step (fail)); refine wpQuiet_nil ?_)
                  refine tree_one rfl ?_
                  go_wp2_with fail
                  refine (HSTP.out al a5 a6 cl c5 c6 _ HAL.out HA5.out HA6.out).mono ?_
                  rintro ex wx16 ⟨hbx, g1, g2, av, cv, rfl, o1, o2, o3⟩
                  have HO1 := Lib.hid o1
                  have HO2 := Lib.hid o2
                  have HO3 := Lib.hid o3
                  clear o1 o2 o3
                  have hzx := hbx.size
                  have HN := Lib.hid (HN.out.trans (hbx.mono HN.out.size))
                  have HAL := Lib.hid (HAL.out.below hbx)
                  have HA5 := Lib.hid (HA5.out.below hbx)
                  have HA6 := Lib.hid (HA6.out.below hbx)
                  have hx9 := (hbx.block X9 l9).trans hx9
                  have l9 := Nat.lt_of_lt_of_le l9 hbx.size
                  clear hbx
                  go_wp2_with fail
                  refine tailL_mk HN.out ?_
                  repeat (refine tree_head rfl ?_; (show wpQuiet _ _ _ _ (_ :: _) _; go_big_quiet_step (fail)); refine wpQuiet_nil ?_)
                  refine tree_one rfl ?_
                  have c90 := cell_of_row _ _ 0 _ _ _ hx9
                  have f90 := frozen_of_row _ _ 0 _ _ hx9
                  have c91 := cell_of_row _ _ 1 _ _ _ hx9
                  have f91 := frozen_of_row _ _ 1 _ _ hx9
                  simp only [List.getElem?_toArray, List.getElem?_cons_zero, List.getElem?_cons_succ] at c90 c91
                  go_wp2_with fail
                  have HN := Lib.hid (show Below w21.heap.size w21 ((wx16.setCell ⟨X9, 0, none⟩ (.slice (some ⟨g1, 0, none⟩) n n)).setCell ⟨X9, 1, none⟩ (.slice (some ⟨g2, 0, none⟩) n n)) from Below.setCell (Below.setCell (HN.out) hNX _) hNX _)
                  have hxo := hx9
                  have hx9 : ((wx16.setCell ⟨X9, 0, none⟩ (.slice (some ⟨g1, 0, none⟩) n n)).setCell ⟨X9, 1, none⟩ (.slice (some ⟨g2, 0, none⟩) n n)).heap[X9]? = some (.cells #[.slice (some ⟨g1, 0, none⟩) n n, .slice (some ⟨g2, 0, none⟩) n n] 67) := blk_set (blk_set (hx9) 0 (.slice (some ⟨g1, 0, none⟩) n n)) 1 (.slice (some ⟨g2, 0, none⟩) n n)
                  refine tailL_mk HN.out ?_
                  repeat (refine tree_head rfl ?_; (show wpQuiet _ _ _ _ (_ :: _) _; go_big_quiet_step (fail)); refine wpQuiet_nil ?_)
                  refine tree_done ?_
                  go_wp2_with fail
                  have hkp : ∀ b, b ≠ X9 → ((wx16.setCell ⟨X9, 0, none⟩ (.slice (some ⟨g1, 0, none⟩) n n)).setCell ⟨X9, 1, none⟩ (.slice (some ⟨g2, 0, none⟩) n n)).heap[b]? = wx16.heap[b]? := fun b hb => by rw [Go.Deep.blk_setCell_other _ _ _ _ (by simpa using hb), Go.Deep.blk_setCell_other _ _ _ _ (by simpa using hb)]
                  have hks : wx16.heap.size ≤ ((wx16.setCell ⟨X9, 0, none⟩ (.slice (some ⟨g1, 0, none⟩) n n)).setCell ⟨X9, 1, none⟩ (.slice (some ⟨g2, 0, none⟩) n n)).heap.size := by simp
                  have HO1 := Lib.hid (ints_kept HO1.out hxo (two_slices _ _ _ _ _ _) hks hkp)
                  have HO2 := Lib.hid (ints_kept HO2.out hxo (two_slices _ _ _ _ _ _) hks hkp)
                  have HO3 := Lib.hid (ints_kept HO3.out hxo (two_slices _ _ _ _ _ _) hks hkp)
                  go_meet
                  case rel => exact ⟨X9, g1, g2, av, cv, rfl, rfl, rfl, Lib.hid hx9, HO1, HO2, HO3, hNX, HN⟩
              case rest =>
                obtain ⟨w22, rfl⟩ : ∃ w', w' = wc := ⟨wc, rfl⟩
                obtain ⟨X, g1, g2, av, cv, rfl, rfl, rfl, HX, HO1, HO2, HO3, hwX22, HN22⟩ := hcut
                have hz22 := HN22.out.size
                have hav := HO3.out.addr (by omega)
                obtain ⟨bv, ov, hbv, lbv, hcv⟩ := hav
                simp only [Option.some.injEq, Addr.mk.injEq, and_true] at hbv
                obtain ⟨rfl, rfl⟩ := hbv
                have HV := Lib.hid (fun j (hj : j ≤ n) => (show w22.cell? ⟨av, j, none⟩ = some (.int .i64 (if j ≤ k ∧ j < n then g0 SR (k - j) else 0)) by
                  rw [← tr_V (l := SR) hn2 hlt j hj, ← HSK.out]
                  have := hcv j (by omega)
                  rwa [Nat.zero_add] at this))
                have HSC := Lib.hid (fun j (hj : j < n) => (show w22.cell? ⟨b13, o13 + j, none⟩ = some (.int .i64 (g0 SR j)) by
                  rw [cellB HN22.out _ _ hb13]; exact HC13.out j hj))
                have hx18 := blk_below hxw HN22.out
                have HX18 := Lib.hid hx18
                clear hcv hxw hx18 c13k d0 d1 g0_ g1_
                go_wp2_with fail
                go_loop [24] (fun i => ∃ j : Nat, i = .int .i64 j ∧ j ≤ n + 1) (fun i => n + 1 - (intOf i).toNat)
                case atStart => exact ⟨0, rfl, Nat.zero_le _⟩
                case round =>
                  obtain ⟨j, rfl, hj⟩ := hrel
                  have j0 : (0 : Int) ≤ (j : Int) := by omega
                  rcases Nat.lt_or_ge j (n + 1) with hjl | hjg
                  · have cV := HV.out j (by omega)
                    have jn : (j : Int) ≤ (n : Int) := by omega
                    have jn1 : (j : Int) < (n : Int) + 1 := by omega
                    by_cases hjk : j ≤ k
                    · have jk1 : (j : Int) ≤ (k : Int) := by omega
                      by_cases hjn : j < n
                      · rw [if_pos ⟨hjk, hjn⟩] at cV
                        have cS := HSC.out (k - j) (by omega)
                        have jn2 : (j : Int) < (n : Int) := by omega
                        have t1 : ((k : Int) - (j : Int)).toNat = k - j := by omega
                        have t2 : (0 : Int) ≤ (k : Int) - (j : Int) := by omega
                        have t3 : (k : Int) - (j : Int) < (n : Int) := by omega
                        generalize g0 SR (k - j) = V at cV cS
                        go_wp2
                        go_round
                        case rel => exact ⟨j + 1, by go_num, by omega⟩
                        case measure => simp [intOf]; omega
                      · rw [if_neg (fun h => hjn h.2)] at cV
                        have jn2 : ¬ ((j : Int) < (n : Int)) := by omega
                        go_wp2
                        go_round
                        case rel => exact ⟨j + 1, by go_num, by omega⟩
                        case measure => simp [intOf]; omega
                    · rw [if_neg (fun h => hjk h.1)] at cV
                      have jk1 : ¬ ((j : Int) ≤ (k : Int)) := by omega
                      go_wp2
                      go_round
                      case rel => exact ⟨j + 1, by go_num, by omega⟩
                      case measure => simp [intOf]; omega
                  · obtain rfl : j = n + 1 := by omega
                    have x0 := blk_cell HX.out (i := 0) rfl
                    have x1 := blk_cell HX.out (i := 1) rfl
                    have lX := blk_lt HX.out
                    go_wp2_with fail
                    refine (copyState_any (wv SR n (k + 1)) (List.replicate n 0) _ _ n n n n w22 HO1.out HO2.out (by omega) (by omega)).mono ?_
                    rintro e23 w23 ⟨a5, c5, a6, c6, rfl, hb23, h5, h6⟩
                    have HX18 := Lib.hid (blk_below HX18.out hb23)
                    have HA := Lib.hid (And.intro h5 h6)
                    have HN23 := Lib.hid (HN22.out.trans (hb23.mono hz22))
                    clear hb23 h5 h6 x0 x1 lX
                    have d0 := blk_cell HX18.out (i := 0) rfl
                    have d1 := blk_cell HX18.out (i := 1) rfl
                    have g0_ := blk_fz HX18.out 0
                    have g1_ := blk_fz HX18.out 1
                    have lX18 := blk_lt HX18.out
                    go_wp2_with fail
                    have hx18n : ((w23.setCell ⟨X18, 0, none⟩ (.slice a5 n c5)).setCell ⟨X18, 1, none⟩ (.slice a6 n c6)).heap[X18]? = some (.cells #[.slice a5 n c5, .slice a6 n c6] 67) := blk_set (blk_set HX18.out 0 (.slice a5 n c5)) 1 (.slice a6 n c6)
                    have hkp : ∀ b, b ≠ X18 → ((w23.setCell ⟨X18, 0, none⟩ (.slice a5 n c5)).setCell ⟨X18, 1, none⟩ (.slice a6 n c6)).heap[b]? = w23.heap[b]? := fun b hb => by rw [Go.Deep.blk_setCell_other _ _ _ _ (by simpa using hb), Go.Deep.blk_setCell_other _ _ _ _ (by simpa using hb)]
                    have hks : w23.heap.size ≤ ((w23.setCell ⟨X18, 0, none⟩ (.slice a5 n c5)).setCell ⟨X18, 1, none⟩ (.slice a6 n c6)).heap.size := by simp
                    have HSTn := Lib.hid (And.intro (ints_kept HA.out.1 HX18.out (two_slices _ _ _ _ _ _) hks hkp) (ints_kept HA.out.2 HX18.out (two_slices _ _ _ _ _ _) hks hkp))
                    have HBn := Lib.hid (show Below X18 w20 ((w23.setCell ⟨X18, 0, none⟩ (.slice a5 n c5)).setCell ⟨X18, 1, none⟩ (.slice a6 n c6)) from Below.setCell (Below.setCell (HBr.out.trans (HN23.out.mono (Nat.le_of_lt lxw))) (Nat.le_refl _) _) (Nat.le_refl _) _)
                    have HXn := Lib.hid hx18n
                    clear hx18n hkp hks d0 d1 g0_ g1_
                    go_wp2
                    go_roundw
                    case rel => exact ⟨k + 1, a5, a6, c5, c6, by go_num, by omega, HXn.out, by simpa using lX18, HSTn, HBn⟩
                    case measure => simp [intOf]; omega
            · obtain rfl : n = k := by omega
              have hln := ln3_ok hn2 hn8
              obtain ⟨N, G, hpk, hsrc, hNl⟩ := tr_all hn2 hn8 HLEN.out HS17.out hM0 hM1
              have HPK := Lib.hid (fun (v : World) al cl a14 c14 (hy : IntsR v al n (ln3 n)) (hs : IntsR v a14 n SR) => peaks_main (ln3 n) SR al a14 n cl n c14 true v hy hs (by rw [hln, HLEN.out]; simp [firstErr, unl]; omega))
              have HPP := Lib.hid hpk
              have HSN := Lib.hid hsrc
              have HNL := Lib.hid hNl
              have HBW := Lib.hid (HB17w.out.trans (HB1721.out.mono HB17w.out.size))
              clear hpk hsrc hNl hln d0 d1 g0_ g1_ hxw lxw HST
              go_wp2_with fail
              refine (copyLine_any (ln3 n) a11 n c11 true w21 HL21.out (by omega)).mono ?_
              rintro e24 w24 ⟨al, cl, rfl, hb24, hl⟩
              have HAL := Lib.hid hl
              have HSR24 := Lib.hid (HSR21.out.below hb24)
              have HBW := Lib.hid (HBW.out.trans (hb24.mono HBW.out.size))
              clear hb24 hl
              go_wp2_with fail
              refine (copyInts_any SR a13 n c13 w24 HSR24.out (by omega)).mono ?_
              rintro e25 w25 ⟨a14, c14, rfl, hb25, ho⟩
              have HX := Lib.hid (HPK.out w25 al cl a14 c14 (HAL.out.below hb25) (SlR.of_owns ho))
              have HBW := Lib.hid (HBW.out.trans (hb25.mono HBW.out.size))
              clear hb25 ho HPK
              go_wp2_with fail
              refine HX.out.mono ?_
              rintro e26 w26 ⟨hb26, aN, nN, cN, aG, nG, cG, he26, hN, hG⟩
              rw [HPP.out] at he26 hN
              simp only at he26 hN
              have hnN : nN = n + 1 := by rw [← hN.len]; exact HNL.out
              subst hnN
              subst he26
              have HNN := Lib.hid hN
              have HBW := Lib.hid (HBW.out.trans (hb26.mono HBW.out.size))
              clear hb26 hN hG HX
              go_wp2_with fail
              generalize hW : World.alloc _ _ = w27 at *
              obtain ⟨Y, hY⟩ : ∃ Y, Y = w26.heap.size := ⟨_, rfl⟩
              have hb27 : Below w26.heap.size w26 w27 := by rw [← hW]; (repeat' (first | (with_reducible exact Below.refl _ _) | (with_reducible assumption) | (with_reducible refine Below.drewN ?_ _) | (with_reducible refine Below.alloc ?_ ?_ _) | (with_reducible refine Below.drew ?_) | (with_reducible refine Below.setCell ?_ ?_ _) | (with_reducible refine Below.step (by assumption) ?_ ?_) | (with_reducible exact And.left (by assumption)) | go_size))
              have y0 : w27.cell? ⟨Y, 0, none⟩ = some (.slice aN (n + 1) cN) := by { rw [← hW, hY]; clear hW; go_simp }
              have lY : Y < w27.heap.size := by rw [← hW, hY]; simp
              have HNN := Lib.hid (HNN.out.below hb27)
              have HBW := Lib.hid (HBW.out.trans (hb27.mono HBW.out.size))
              simp only [← hY]
              clear hW hY hb27
              obtain ⟨bN, oN, rfl, lbN, hcN⟩ := HNN.out.addr (by omega)
              have HCN := Lib.hid hcN
              clear hcN
              go_wp2_with fail
              go_loop [28] (fun i => ∃ j : Nat, i = .int .i64 j ∧ j ≤ n + 1) (fun i => n + 1 - (intOf i).toNat)
              case atStart => exact ⟨0, rfl, Nat.zero_le _⟩
              case round =>
                obtain ⟨j, rfl, hj⟩ := hrel
                have j0 : (0 : Int) ≤ (j : Int) := by omega
                rcases Nat.lt_or_ge j (n + 1) with hjl | hjg
                · have cN := HCN.out j hjl
                  have hb := HSN.out j
                  change w27.cell? ⟨bN, oN + j, none⟩ = some (.int .i64 (g0 N j)) at cN
                  generalize g0 N j = V at cN hb
                  have HWV := Lib.hid (fun v => bwithin_any V 0 M v)
                  rw [wi_iff.2 hb] at HWV
                  have jn1 : (j : Int) < (n : Int) + 1 := by omega
                  clear hb
                  go_wp2_with fail
                  refine (HWV.out _).mono ?_
                  rintro e28 w28 ⟨rfl, rfl⟩
                  go_wp2
                  go_round
                  case rel => exact ⟨j + 1, by go_num, by omega⟩
                  case measure => simp [intOf]; omega
                · obtain rfl : j = n + 1 := by omega
                  go_wp2
                  go_ret
                  exact ⟨rfl, HBW.out⟩
theorem trav_walk (p f t sec ch : Int) (w : World) :
    Calls Try.prog 4 #[.agg #[.int .i64 p, .int .i64 f, .int .i64 t], .int .i64 sec, .int .i64 ch] w fun e' w' => e' = .returned (.bool true) ∧ Below w.heap.size w w' := by
  cases h : (wi p 0 1000 && wi f 1 5 && wi t 6 40 && wi sec 2 8 && wi ch 1 7)
  · exact trav_out p f t sec ch _ _ _ _ _ w rfl rfl rfl rfl rfl h
  · simp only [Bool.and_eq_true, wi_iff] at h
    obtain ⟨⟨⟨⟨⟨h1, h2⟩, h3, h4⟩, h5, h6⟩, h7, h8⟩, h9, h10⟩ := h
    obtain ⟨n, rfl⟩ : ∃ n : Nat, sec = n := ⟨sec.toNat, by omega⟩
    exact trav_main p f t ch n w ⟨h1, h2, h3, h4, h5, h6, h9, h10⟩ (by omega) (by omega)
end Go.Proofs.Ytbjgklifmillgaa
