import Derived.Laws.EntriesVeiled
import Derived.Test.YtbjgklifmillgaaExtreme
import Derived.Test.YtbjgklifmillgaaMIni
import Derived.Test.YtbjgklifmillgaaMRng
/- The span of a gap. -/
namespace Go.Proofs.Ytbjgklifmillgaa
open Go.RowKit
set_option linter.unusedVariables false

theorem gs1_any (x k : Int) (G : Nat) (w : World) (hG : G < w.heap.size) (hc : w.cell? ⟨G, 0, none⟩ = some (.int .i64 k)) :
    Calls Try.prog 77 #[.int .i64 x, .pointer (some ⟨G, 0, none⟩)] w fun e w' => e = .returned (.bool (x != k)) ∧ w = w' := by
  go_enter Try.func77, Try.ntmps77
  go_wp2
  go_ret
  exact ⟨rfl, rfl⟩
theorem gs2_any (x k : Int) (G : Nat) (w : World) (hG : G < w.heap.size) (hc : w.cell? ⟨G, 0, none⟩ = some (.int .i64 k)) :
    Calls Try.prog 78 #[.int .i64 x, .pointer (some ⟨G, 0, none⟩)] w fun e w' => e = .returned (.bool (decide (k ≤ x))) ∧ w = w' := by
  go_enter Try.func78, Try.ntmps78
  go_wp2
  go_ret
  exact ⟨rfl, rfl⟩
theorem cf_gs1 (args : Array Value) (w : World) : (callFunc 77 args).run Try.prog w = .ok (.enter 77 args) w := by kernel_rfl
theorem cf_gs2 (args : Array Value) (w : World) : (callFunc 78 args).run Try.prog w = .ok (.enter 78 args) w := by kernel_rfl
theorem cf_gs3 (args : Array Value) (w : World) : (callFunc 79 args).run Try.prog w = .ok (.enter 79 args) w := by kernel_rfl

/-- What valid ranges are. -/
theorem rgScan_zero (s e : List (Int × Int)) : ∀ m i, rgScan s e m i = 0 → ∀ k, i ≤ k → k < i + m → rgPt s e k = 0
  | 0, i, _, k, h1, h2 => by omega
  | m + 1, i, h, k, h1, h2 => by
    unfold rgScan at h
    by_cases h0 : rgPt s e i = 0
    · rw [if_pos h0] at h
      by_cases hk : k = i
      · subst hk; exact h0
      · exact rgScan_zero s e m (i + 1) h k (by omega) (by omega)
    · rw [if_neg h0] at h; exact absurd h h0
theorem rngErr_zero {s e : List (Int × Int)} (h : rngErr s e = 0) : 0 < s.length ∧ e.length = s.length ∧ s.length ≤ 6 ∧ ∀ k, k < s.length → (1 ≤ (gr s k).1 ∧ (gr s k).1 ≤ (gr s k).2 ∧ (gr s k).2 ≤ 100) ∧ (0 ≤ (gr e k).1 ∧ (gr e k).1 ≤ (gr e k).2 ∧ (gr e k).2 ≤ 100) := by
  unfold rngErr at h
  by_cases h1 : 0 < s.length ∧ e.length = s.length
  · rw [if_pos h1] at h
    by_cases h2 : s.length ≤ 6
    · rw [if_pos h2] at h
      refine ⟨h1.1, h1.2, h2, fun k hk => ?_⟩
      have h3 := rgScan_zero s e _ 0 h k (by omega) (by omega)
      unfold rgPt at h3
      have h4 : rgOk s e k = true ∧ rgOrd s e k = true := by
        generalize rgOk s e k = b1 at h3
        generalize rgOrd s e k = b2 at h3
        cases b1 <;> cases b2 <;> simp [firstErr, unl] at h3 ⊢
      simp only [rgOk, rgOrd, Bool.and_eq_true, wi_iff, decide_eq_true_eq] at h4
      omega
    · rw [if_neg h2] at h; omega
  · rw [if_neg h1] at h; omega
theorem ext_bd (l : List (Int × Int)) (p : Nat → Bool) (high : Bool) (n : Nat) (lo hi : Int) (h : ∀ k, k < n → (lo ≤ (gr l k).1 ∧ (gr l k).1 ≤ hi) ∧ (lo ≤ (gr l k).2 ∧ (gr l k).2 ≤ hi)) : ∀ x ∈ extAt l p high n, lo ≤ x ∧ x ≤ hi := by
  intro x hx
  simp only [extAt, List.mem_map, List.mem_range] at hx
  obtain ⟨k, hk, rfl⟩ := hx
  have := h k hk
  unfold endOf
  split
  · exact this.2
  · exact this.1

/-- A gap's stress in the ladder of extreme capacitances: a numerator and a denominator. -/
def gp1 (k : Nat) (i : Nat) : Bool := ((i : Int) != (k : Int))
def gp2 (k : Nat) (i : Nat) : Bool := decide ((k : Int) ≤ (i : Int))
def gapNum (s e : List (Int × Int)) (n L k : Nat) (high : Bool) : Int :=
  (numsOf (extAt s (gp1 k) high n) (extAt e (gp2 k) high n) n L).getD k 0 - (numsOf (extAt s (gp1 k) high n) (extAt e (gp2 k) high n) n L).getD (k + 1) 0
def gapDen (s e : List (Int × Int)) (n L k : Nat) (high : Bool) : Int := dd (extAt s (gp1 k) high n) (extAt e (gp2 k) high n) L L
def gapFr (s e : List (Int × Int)) (n L k : Nat) (high : Bool) : Int × Int := low (gapNum s e n L k high) (gapDen s e n L k high)

set_option maxHeartbeats 2000000 in
set_option maxRecDepth 100000 in
theorem gs3_any (s e : List (Int × Int)) (a a1 : Option Addr) (n c n1 c1 L k R O A G : Nat) (g high : Bool) (w : World) (hs : PairsR w a n s) (he : PairsR w a1 n1 e) (h0 : rngErr s e = 0) (hL : lastOf n g = L) (hk : k < n)
    (r0 : w.cell? ⟨R, 0, none⟩ = some (.slice a n c)) (r1 : w.cell? ⟨R, 1, none⟩ = some (.slice a1 n1 c1)) (r2 : w.cell? ⟨R, 2, none⟩ = some (.bool g))
    (ro : w.cell? ⟨O, 0, none⟩ = some (.func (.func 77) #[] #[.pointer (some ⟨G, 0, none⟩)])) (ra : w.cell? ⟨A, 0, none⟩ = some (.func (.func 78) #[] #[.pointer (some ⟨G, 0, none⟩)]))
    (rg : w.cell? ⟨G, 0, none⟩ = some (.int .i64 k)) (lR : R < w.heap.size) (lO : O < w.heap.size) (lA : A < w.heap.size) (lG : G < w.heap.size) :
    Calls Try.prog 79 #[.bool high, .pointer (some ⟨R, 0, none⟩), .pointer (some ⟨O, 0, none⟩), .pointer (some ⟨A, 0, none⟩), .pointer (some ⟨G, 0, none⟩)] w fun e' w' =>
      e' = .returned (.agg #[.int .i64 (gapFr s e n L k high).1, .int .i64 (gapFr s e n L k high).2]) ∧ Below w.heap.size w w' := by
  obtain ⟨hn0, hel, h6, hbd⟩ := rngErr_zero h0
  rw [hs.len] at hn0 hel h6 hbd
  rw [he.len] at hel
  obtain rfl : n1 = n := hel
  have hLb : L ≤ n1 ∧ n1 ≤ L + 1 := by
    unfold lastOf at hL
    split at hL <;> omega
  have bs := ext_bd s (gp1 k) high n1 1 100 (fun i hi => by have := hbd i hi; omega)
  have be := ext_bd e (gp2 k) high n1 0 100 (fun i hi => by have := hbd i hi; omega)
  have HX := Lib.hid (fun (w' : World) (hb : Below w.heap.size w w') => extreme_any s e (gp1 k) (gp2 k) _ _ a a1 n1 c n1 c1 G g high w' (hs.below hb) (he.below hb) rfl (by omega) cf_gs1 cf_gs2
    (fun i w'' hb2 => gs1_any i k G w'' (by have := hb.size; have := hb2.size; omega) (by rw [cellB (hb.trans (hb2.mono hb.size)) _ _ lG]; exact rg))
    (fun i w'' hb2 => gs2_any i k G w'' (by have := hb.size; have := hb2.size; omega) (by rw [cellB (hb.trans (hb2.mono hb.size)) _ _ lG]; exact rg)))
  have hSl := ext_len s (gp1 k) high n1
  have hEl := ext_len e (gp2 k) high n1
  have hGN : gapNum s e n1 L k high = (numsOf (extAt s (gp1 k) high n1) (extAt e (gp2 k) high n1) n1 L).getD k 0 - (numsOf (extAt s (gp1 k) high n1) (extAt e (gp2 k) high n1) n1 L).getD (k + 1) 0 := rfl
  have hGD : gapDen s e n1 L k high = dd (extAt s (gp1 k) high n1) (extAt e (gp2 k) high n1) L L := rfl
  have hFr : gapFr s e n1 L k high = low (gapNum s e n1 L k high) (gapDen s e n1 L k high) := rfl
  rw [hFr]
  generalize gapNum s e n1 L k high = GN at *
  generalize gapDen s e n1 L k high = GD at *
  generalize extAt s (gp1 k) high n1 = S at *
  generalize extAt e (gp2 k) high n1 = E at *
  clear hFr
  have HI := Lib.hid (fun (w' : World) (av av1 : Option Addr) (cv cv1 : Nat) (h1 : IntsR w' av n1 S) (h2 : IntsR w' av1 n1 E) => cinit_main S E av av1 n1 cv n1 cv1 L g w' h1 h2 rfl hn0 h6 hL hLb.1 hLb.2 (fun x hx => by have := bs x hx; omega) be)
  have hdp := dd_pos S E L bs be (by omega) L (Nat.le_refl _)
  have hdb := (dd_bd6 S E L (fun x hx => by have := bs x hx; omega) be L (by omega)).2
  have hnb := nums_bd S E n1 L bs be (by omega)
  rw [← hGD] at hdp hdb hnb HI
  have hNl : (numsOf S E n1 L).length = n1 + 1 := by simp [numsOf]
  generalize numsOf S E n1 L = N at *
  obtain ⟨N1, hN1⟩ : ∃ x, x = N.getD k 0 := ⟨_, rfl⟩
  obtain ⟨N2, hN2⟩ : ∃ x, x = N.getD (k + 1) 0 := ⟨_, rfl⟩
  have b1 : 0 ≤ N1 ∧ N1 ≤ GD := by rw [hN1]; exact hnb _ (getD_mem (by omega))
  have b2 : 0 ≤ N2 ∧ N2 ≤ GD := by rw [hN2]; exact hnb _ (getD_mem (by omega))
  rw [← hN1, ← hN2] at hGN
  have HN1 := Lib.hid hN1
  have HN2 := Lib.hid hN2
  obtain ⟨⟨p, q⟩, hpq⟩ : ∃ f, low GN GD = f := ⟨_, rfl⟩
  have hlow := fun w' => lowest_any GN GD w' (by omega) (by omega) hdp (by omega)
  rw [show GN.tdiv (gc GN GD) = p from congrArg Prod.fst hpq, show GD / gc GN GD = q from congrArg Prod.snd hpq] at hlow
  rw [hpq]
  have HLOW := Lib.hid hlow
  have HGN := Lib.hid hGN
  clear hlow hpq hN1 hN2 hnb hGD bs be hbd hs he h0 hL hSl hEl hNl hGN
  have i0 : (0 : Int) ≤ (k : Int) := by omega
  have i1 : (k : Int) < (n1 : Int) + 1 := by omega
  have i2 : (k : Int) + 1 < (n1 : Int) + 1 := by omega
  go_enter Try.func79, Try.ntmps79
  go_wp2_with fail
  refine (HX.out _ (by (repeat' (first | (with_reducible exact Below.refl _ _) | (with_reducible assumption) | (with_reducible refine Below.drewN ?_ _) | (with_reducible refine Below.alloc ?_ ?_ _) | (with_reducible refine Below.drew ?_) | (with_reducible refine Below.setCell ?_ ?_ _) | (with_reducible refine Below.step (by assumption) ?_ ?_) | (with_reducible exact And.left (by assumption)) | go_size)))).mono ?_
  rintro e5 w5 ⟨av, cv, av1, cv1, rfl, hb5, hi1, hi2⟩
  have hz5 := hb5.size
  simp only [World.size_alloc] at hz5
  have rg5 : w5.cell? ⟨G, 0, none⟩ = some (.int .i64 k) := by { rw [cellB hb5 _ _ (by first | (simp; done) | (simp; omega) | omega)]; all_goals (first | assumption | go_simp) }; have p0 : w5.cell? ⟨w.heap.size, 0, none⟩ = some (.int .i64 0) := by { rw [cellB hb5 _ _ (by first | (simp; done) | (simp; omega) | omega)]; all_goals (first | assumption | go_simp) }; have p1 : w5.cell? ⟨w.heap.size, 1, none⟩ = some (.int .i64 0) := by { rw [cellB hb5 _ _ (by first | (simp; done) | (simp; omega) | omega)]; all_goals (first | assumption | go_simp) }; have f0 : w5.frozen? ⟨w.heap.size, 0, none⟩ = false := by { rw [frozenB hb5 _ _ (by first | (simp; done) | (simp; omega) | omega)]; all_goals (first | assumption | go_simp) }; have f1 : w5.frozen? ⟨w.heap.size, 1, none⟩ = false := by { rw [frozenB hb5 _ _ (by first | (simp; done) | (simp; omega) | omega)]; all_goals (first | assumption | go_simp) }; have l5 : w.heap.size < w5.heap.size := by { omega }
  have HB5 := Lib.hid (show Below w.heap.size w w5 by (repeat' (first | (with_reducible exact Below.refl _ _) | (with_reducible assumption) | (with_reducible refine Below.drewN ?_ _) | (with_reducible refine Below.alloc ?_ ?_ _) | (with_reducible refine Below.drew ?_) | (with_reducible refine Below.setCell ?_ ?_ _) | (with_reducible refine Below.step (by assumption) ?_ ?_) | (with_reducible exact And.left (by assumption)) | go_size)))
  have H1 := Lib.hid (And.intro hi1 hi2)
  clear hb5 HX hi1 hi2 r0 r1 r2 ro ra rg
  go_wp2_with fail
  refine (HI.out _ _ _ _ _ H1.out.1 H1.out.2).mono ?_
  rintro e6 w6 ⟨g6, rfl, hb6, hi6⟩
  have hz6 := hb6.size
  have rg6 : w6.cell? ⟨G, 0, none⟩ = some (.int .i64 k) := by { rw [cellB hb6 _ _ (by first | (simp; done) | (simp; omega) | omega)]; all_goals (first | assumption | go_simp) }; have p0' : w6.cell? ⟨w.heap.size, 0, none⟩ = some (.int .i64 0) := by { rw [cellB hb6 _ _ (by first | (simp; done) | (simp; omega) | omega)]; all_goals (first | assumption | go_simp) }; have p1' : w6.cell? ⟨w.heap.size, 1, none⟩ = some (.int .i64 0) := by { rw [cellB hb6 _ _ (by first | (simp; done) | (simp; omega) | omega)]; all_goals (first | assumption | go_simp) }; have f0' : w6.frozen? ⟨w.heap.size, 0, none⟩ = false := by { rw [frozenB hb6 _ _ (by first | (simp; done) | (simp; omega) | omega)]; all_goals (first | assumption | go_simp) }; have f1' : w6.frozen? ⟨w.heap.size, 1, none⟩ = false := by { rw [frozenB hb6 _ _ (by first | (simp; done) | (simp; omega) | omega)]; all_goals (first | assumption | go_simp) }; have l6 : w.heap.size < w6.heap.size := by { omega }
  have HB6 := Lib.hid (HB5.out.trans (hb6.mono HB5.out.size))
  obtain ⟨b6, o6, hq6, hbl6, hc6⟩ := hi6.addr (by omega)
  simp only [Option.some.injEq, Addr.mk.injEq] at hq6
  obtain ⟨rfl, rfl, _⟩ := hq6
  have cn1 : w6.cell? ⟨g6, k, none⟩ = some (.int .i64 N1) := by rw [HN1.out]; have := hc6 k (by omega); rwa [Nat.zero_add] at this
  have cn2 : w6.cell? ⟨g6, k + 1, none⟩ = some (.int .i64 N2) := by rw [HN2.out]; have := hc6 (k + 1) (by omega); rwa [Nat.zero_add] at this
  clear hb6 hi6 hc6 HI H1 HB5 rg5 p0 p1 f0 f1
  go_wp2_with fail
  refine drew_of_eq 11 (by kernel_rfl) (by kernel_rfl) ?_; simp only [List.take_succ_cons, List.take_zero, List.drop_succ_cons, List.drop_zero]; repeat go_big_quiet_step (fail)
  refine wpQuiet_nil ?_; intro m7
  go_wp2_with fail
  rw [← HGN.out]
  refine (HLOW.out _).mono ?_
  rintro e8 w8 ⟨rfl, hb8⟩
  have hb8' : Below w6.heap.size w6 w8 := ((Below.refl w6.heap.size w6).drewN m7).trans hb8
  have hz8 := hb8'.size
  have p0 : w8.cell? ⟨w.heap.size, 0, none⟩ = some (.int .i64 0) := by { rw [cellB hb8' _ _ (by first | (simp; done) | (simp; omega) | omega)]; all_goals (first | assumption | go_simp) }; have p1 : w8.cell? ⟨w.heap.size, 1, none⟩ = some (.int .i64 0) := by { rw [cellB hb8' _ _ (by first | (simp; done) | (simp; omega) | omega)]; all_goals (first | assumption | go_simp) }; have f0 : w8.frozen? ⟨w.heap.size, 0, none⟩ = false := by { rw [frozenB hb8' _ _ (by first | (simp; done) | (simp; omega) | omega)]; all_goals (first | assumption | go_simp) }; have f1 : w8.frozen? ⟨w.heap.size, 1, none⟩ = false := by { rw [frozenB hb8' _ _ (by first | (simp; done) | (simp; omega) | omega)]; all_goals (first | assumption | go_simp) }; have l8 : w.heap.size < w8.heap.size := by { omega }
  have HB8 := Lib.hid (HB6.out.trans (hb8'.mono HB6.out.size))
  clear hb8 hb8' HLOW
  go_wp2
  refine bodyPost_ret (v := .agg #[.int .i64 p, .int .i64 q]) (by simp [results, Try.results79, go_sem, p0, p1]) rfl ⟨rfl, ?_⟩
  have := HB8.out
  (repeat' (first | (with_reducible exact Below.refl _ _) | (with_reducible assumption) | (with_reducible refine Below.drewN ?_ _) | (with_reducible refine Below.alloc ?_ ?_ _) | (with_reducible refine Below.drew ?_) | (with_reducible refine Below.setCell ?_ ?_ _) | (with_reducible refine Below.step (by assumption) ?_ ?_) | (with_reducible exact And.left (by assumption)) | go_size))

set_option maxRecDepth 100000 in
theorem span_any (p q p2 q2 : Int) (w : World) :
    Calls Try.prog 82 #[.agg #[.int .i64 p, .int .i64 q], .agg #[.int .i64 p2, .int .i64 q2]] w fun e' w' =>
      e' = .returned (.tuple (if smallF (p, q) && smallF (p2, q2) then #[.agg #[.int .i64 p, .int .i64 q, .int .i64 p2, .int .i64 q2], .int .i64 0] else #[.agg #[.int .i64 0, .int .i64 0, .int .i64 0, .int .i64 0], .int .i64 8])) ∧ Below w.heap.size w w' := by
  have H1 := Lib.hid (fun w' => isSmall_any p q w')
  have H2 := Lib.hid (fun w' => isSmall_any p2 q2 w')
  rw [show (wi p (-1000000000) 1000000000 && decide (q ≤ 1000000000)) = smallF (p, q) from rfl] at H1
  rw [show (wi p2 (-1000000000) 1000000000 && decide (q2 ≤ 1000000000)) = smallF (p2, q2) from rfl] at H2
  generalize smallF (p, q) = b1 at *
  generalize smallF (p2, q2) = b2 at *
  cases b1
  · go_enter Try.func82, Try.ntmps82
    go_wp2_with fail
    refine (H1.out _).mono ?_
    rintro e5 w5 ⟨rfl, hb5⟩
    have hz5 := hb5.size
    simp only [World.size_alloc] at hz5
    have u0 : w5.cell? ⟨w.heap.size + 1 + 1, 0, none⟩ = some (.int .i64 0) := by { rw [cellB hb5 _ _ (by first | (simp; done) | (simp; omega) | omega)]; all_goals (first | assumption | go_simp) }; have u1 : w5.cell? ⟨w.heap.size + 1 + 1, 1, none⟩ = some (.int .i64 0) := by { rw [cellB hb5 _ _ (by first | (simp; done) | (simp; omega) | omega)]; all_goals (first | assumption | go_simp) }; have u2 : w5.cell? ⟨w.heap.size + 1 + 1, 2, none⟩ = some (.int .i64 0) := by { rw [cellB hb5 _ _ (by first | (simp; done) | (simp; omega) | omega)]; all_goals (first | assumption | go_simp) }; have u3 : w5.cell? ⟨w.heap.size + 1 + 1, 3, none⟩ = some (.int .i64 0) := by { rw [cellB hb5 _ _ (by first | (simp; done) | (simp; omega) | omega)]; all_goals (first | assumption | go_simp) }; have uf0 : w5.frozen? ⟨w.heap.size + 1 + 1, 0, none⟩ = false := by { rw [frozenB hb5 _ _ (by first | (simp; done) | (simp; omega) | omega)]; all_goals (first | assumption | go_simp) }; have uf1 : w5.frozen? ⟨w.heap.size + 1 + 1, 1, none⟩ = false := by { rw [frozenB hb5 _ _ (by first | (simp; done) | (simp; omega) | omega)]; all_goals (first | assumption | go_simp) }; have uf2 : w5.frozen? ⟨w.heap.size + 1 + 1, 2, none⟩ = false := by { rw [frozenB hb5 _ _ (by first | (simp; done) | (simp; omega) | omega)]; all_goals (first | assumption | go_simp) }; have uf3 : w5.frozen? ⟨w.heap.size + 1 + 1, 3, none⟩ = false := by { rw [frozenB hb5 _ _ (by first | (simp; done) | (simp; omega) | omega)]; all_goals (first | assumption | go_simp) }
    have HB5 := Lib.hid (show Below w.heap.size w w5 by (repeat' (first | (with_reducible exact Below.refl _ _) | (with_reducible assumption) | (with_reducible refine Below.drewN ?_ _) | (with_reducible refine Below.alloc ?_ ?_ _) | (with_reducible refine Below.drew ?_) | (with_reducible refine Below.setCell ?_ ?_ _) | (with_reducible refine Below.step (by assumption) ?_ ?_) | (with_reducible exact And.left (by assumption)) | go_size)))
    clear hb5
    go_wp2
    refine bodyPost_ret (v := .tuple #[.agg #[.int .i64 0, .int .i64 0, .int .i64 0, .int .i64 0], .int .i64 8]) (by simp [results, Try.results82, go_sem, u0, u1, u2, u3]) rfl ⟨rfl, ?_⟩
    have := HB5.out
    (repeat' (first | (with_reducible exact Below.refl _ _) | (with_reducible assumption) | (with_reducible refine Below.drewN ?_ _) | (with_reducible refine Below.alloc ?_ ?_ _) | (with_reducible refine Below.drew ?_) | (with_reducible refine Below.setCell ?_ ?_ _) | (with_reducible refine Below.step (by assumption) ?_ ?_) | (with_reducible exact And.left (by assumption)) | go_size))
  · cases b2
    · go_enter Try.func82, Try.ntmps82
      go_wp2_with fail
      refine (H1.out _).mono ?_
      rintro e5 w5 ⟨rfl, hb5⟩
      have hz5 := hb5.size
      simp only [World.size_alloc] at hz5
      have u0 : w5.cell? ⟨w.heap.size + 1 + 1, 0, none⟩ = some (.int .i64 0) := by { rw [cellB hb5 _ _ (by first | (simp; done) | (simp; omega) | omega)]; all_goals (first | assumption | go_simp) }; have u1 : w5.cell? ⟨w.heap.size + 1 + 1, 1, none⟩ = some (.int .i64 0) := by { rw [cellB hb5 _ _ (by first | (simp; done) | (simp; omega) | omega)]; all_goals (first | assumption | go_simp) }; have u2 : w5.cell? ⟨w.heap.size + 1 + 1, 2, none⟩ = some (.int .i64 0) := by { rw [cellB hb5 _ _ (by first | (simp; done) | (simp; omega) | omega)]; all_goals (first | assumption | go_simp) }; have u3 : w5.cell? ⟨w.heap.size + 1 + 1, 3, none⟩ = some (.int .i64 0) := by { rw [cellB hb5 _ _ (by first | (simp; done) | (simp; omega) | omega)]; all_goals (first | assumption | go_simp) }; have uf0 : w5.frozen? ⟨w.heap.size + 1 + 1, 0, none⟩ = false := by { rw [frozenB hb5 _ _ (by first | (simp; done) | (simp; omega) | omega)]; all_goals (first | assumption | go_simp) }; have uf1 : w5.frozen? ⟨w.heap.size + 1 + 1, 1, none⟩ = false := by { rw [frozenB hb5 _ _ (by first | (simp; done) | (simp; omega) | omega)]; all_goals (first | assumption | go_simp) }; have uf2 : w5.frozen? ⟨w.heap.size + 1 + 1, 2, none⟩ = false := by { rw [frozenB hb5 _ _ (by first | (simp; done) | (simp; omega) | omega)]; all_goals (first | assumption | go_simp) }; have uf3 : w5.frozen? ⟨w.heap.size + 1 + 1, 3, none⟩ = false := by { rw [frozenB hb5 _ _ (by first | (simp; done) | (simp; omega) | omega)]; all_goals (first | assumption | go_simp) }; have x0 : w5.cell? ⟨w.heap.size + 1, 0, none⟩ = some (.int .i64 p2) := by { rw [cellB hb5 _ _ (by first | (simp; done) | (simp; omega) | omega)]; all_goals (first | assumption | go_simp) }; have x1 : w5.cell? ⟨w.heap.size + 1, 1, none⟩ = some (.int .i64 q2) := by { rw [cellB hb5 _ _ (by first | (simp; done) | (simp; omega) | omega)]; all_goals (first | assumption | go_simp) }; have l5 : w.heap.size + 1 < w5.heap.size := by { omega }
      have HB5 := Lib.hid (show Below w.heap.size w w5 by (repeat' (first | (with_reducible exact Below.refl _ _) | (with_reducible assumption) | (with_reducible refine Below.drewN ?_ _) | (with_reducible refine Below.alloc ?_ ?_ _) | (with_reducible refine Below.drew ?_) | (with_reducible refine Below.setCell ?_ ?_ _) | (with_reducible refine Below.step (by assumption) ?_ ?_) | (with_reducible exact And.left (by assumption)) | go_size)))
      clear hb5
      go_wp2_with fail
      refine (H2.out _).mono ?_
      rintro e6 w6 ⟨rfl, hb6⟩
      have hz6 := hb6.size
      have v0 : w6.cell? ⟨w.heap.size + 1 + 1, 0, none⟩ = some (.int .i64 0) := by { rw [cellB hb6 _ _ (by first | (simp; done) | (simp; omega) | omega)]; all_goals (first | assumption | go_simp) }; have v1 : w6.cell? ⟨w.heap.size + 1 + 1, 1, none⟩ = some (.int .i64 0) := by { rw [cellB hb6 _ _ (by first | (simp; done) | (simp; omega) | omega)]; all_goals (first | assumption | go_simp) }; have v2 : w6.cell? ⟨w.heap.size + 1 + 1, 2, none⟩ = some (.int .i64 0) := by { rw [cellB hb6 _ _ (by first | (simp; done) | (simp; omega) | omega)]; all_goals (first | assumption | go_simp) }; have v3 : w6.cell? ⟨w.heap.size + 1 + 1, 3, none⟩ = some (.int .i64 0) := by { rw [cellB hb6 _ _ (by first | (simp; done) | (simp; omega) | omega)]; all_goals (first | assumption | go_simp) }; have vf0 : w6.frozen? ⟨w.heap.size + 1 + 1, 0, none⟩ = false := by { rw [frozenB hb6 _ _ (by first | (simp; done) | (simp; omega) | omega)]; all_goals (first | assumption | go_simp) }; have vf1 : w6.frozen? ⟨w.heap.size + 1 + 1, 1, none⟩ = false := by { rw [frozenB hb6 _ _ (by first | (simp; done) | (simp; omega) | omega)]; all_goals (first | assumption | go_simp) }; have vf2 : w6.frozen? ⟨w.heap.size + 1 + 1, 2, none⟩ = false := by { rw [frozenB hb6 _ _ (by first | (simp; done) | (simp; omega) | omega)]; all_goals (first | assumption | go_simp) }; have vf3 : w6.frozen? ⟨w.heap.size + 1 + 1, 3, none⟩ = false := by { rw [frozenB hb6 _ _ (by first | (simp; done) | (simp; omega) | omega)]; all_goals (first | assumption | go_simp) }
      have HB6 := Lib.hid (HB5.out.trans (hb6.mono HB5.out.size))
      clear hb6
      go_wp2
      refine bodyPost_ret (v := .tuple #[.agg #[.int .i64 0, .int .i64 0, .int .i64 0, .int .i64 0], .int .i64 8]) (by simp [results, Try.results82, go_sem, v0, v1, v2, v3]) rfl ⟨rfl, ?_⟩
      have := HB6.out
      (repeat' (first | (with_reducible exact Below.refl _ _) | (with_reducible assumption) | (with_reducible refine Below.drewN ?_ _) | (with_reducible refine Below.alloc ?_ ?_ _) | (with_reducible refine Below.drew ?_) | (with_reducible refine Below.setCell ?_ ?_ _) | (with_reducible refine Below.step (by assumption) ?_ ?_) | (with_reducible exact And.left (by assumption)) | go_size))
    · go_enter Try.func82, Try.ntmps82
      go_wp2_with fail
      refine (H1.out _).mono ?_
      rintro e5 w5 ⟨rfl, hb5⟩
      have hz5 := hb5.size
      simp only [World.size_alloc] at hz5
      have u0 : w5.cell? ⟨w.heap.size + 1 + 1, 0, none⟩ = some (.int .i64 0) := by { rw [cellB hb5 _ _ (by first | (simp; done) | (simp; omega) | omega)]; all_goals (first | assumption | go_simp) }; have u1 : w5.cell? ⟨w.heap.size + 1 + 1, 1, none⟩ = some (.int .i64 0) := by { rw [cellB hb5 _ _ (by first | (simp; done) | (simp; omega) | omega)]; all_goals (first | assumption | go_simp) }; have u2 : w5.cell? ⟨w.heap.size + 1 + 1, 2, none⟩ = some (.int .i64 0) := by { rw [cellB hb5 _ _ (by first | (simp; done) | (simp; omega) | omega)]; all_goals (first | assumption | go_simp) }; have u3 : w5.cell? ⟨w.heap.size + 1 + 1, 3, none⟩ = some (.int .i64 0) := by { rw [cellB hb5 _ _ (by first | (simp; done) | (simp; omega) | omega)]; all_goals (first | assumption | go_simp) }; have uf0 : w5.frozen? ⟨w.heap.size + 1 + 1, 0, none⟩ = false := by { rw [frozenB hb5 _ _ (by first | (simp; done) | (simp; omega) | omega)]; all_goals (first | assumption | go_simp) }; have uf1 : w5.frozen? ⟨w.heap.size + 1 + 1, 1, none⟩ = false := by { rw [frozenB hb5 _ _ (by first | (simp; done) | (simp; omega) | omega)]; all_goals (first | assumption | go_simp) }; have uf2 : w5.frozen? ⟨w.heap.size + 1 + 1, 2, none⟩ = false := by { rw [frozenB hb5 _ _ (by first | (simp; done) | (simp; omega) | omega)]; all_goals (first | assumption | go_simp) }; have uf3 : w5.frozen? ⟨w.heap.size + 1 + 1, 3, none⟩ = false := by { rw [frozenB hb5 _ _ (by first | (simp; done) | (simp; omega) | omega)]; all_goals (first | assumption | go_simp) }; have x0 : w5.cell? ⟨w.heap.size + 1, 0, none⟩ = some (.int .i64 p2) := by { rw [cellB hb5 _ _ (by first | (simp; done) | (simp; omega) | omega)]; all_goals (first | assumption | go_simp) }; have x1 : w5.cell? ⟨w.heap.size + 1, 1, none⟩ = some (.int .i64 q2) := by { rw [cellB hb5 _ _ (by first | (simp; done) | (simp; omega) | omega)]; all_goals (first | assumption | go_simp) }; have y0 : w5.cell? ⟨w.heap.size, 0, none⟩ = some (.int .i64 p) := by { rw [cellB hb5 _ _ (by first | (simp; done) | (simp; omega) | omega)]; all_goals (first | assumption | go_simp) }; have y1 : w5.cell? ⟨w.heap.size, 1, none⟩ = some (.int .i64 q) := by { rw [cellB hb5 _ _ (by first | (simp; done) | (simp; omega) | omega)]; all_goals (first | assumption | go_simp) }; have l5 : w.heap.size + 1 < w5.heap.size := by { omega }
      have HB5 := Lib.hid (show Below w.heap.size w w5 by (repeat' (first | (with_reducible exact Below.refl _ _) | (with_reducible assumption) | (with_reducible refine Below.drewN ?_ _) | (with_reducible refine Below.alloc ?_ ?_ _) | (with_reducible refine Below.drew ?_) | (with_reducible refine Below.setCell ?_ ?_ _) | (with_reducible refine Below.step (by assumption) ?_ ?_) | (with_reducible exact And.left (by assumption)) | go_size)))
      clear hb5
      go_wp2_with fail
      refine (H2.out _).mono ?_
      rintro e6 w6 ⟨rfl, hb6⟩
      have hz6 := hb6.size
      have v0 : w6.cell? ⟨w.heap.size + 1 + 1, 0, none⟩ = some (.int .i64 0) := by { rw [cellB hb6 _ _ (by first | (simp; done) | (simp; omega) | omega)]; all_goals (first | assumption | go_simp) }; have v1 : w6.cell? ⟨w.heap.size + 1 + 1, 1, none⟩ = some (.int .i64 0) := by { rw [cellB hb6 _ _ (by first | (simp; done) | (simp; omega) | omega)]; all_goals (first | assumption | go_simp) }; have v2 : w6.cell? ⟨w.heap.size + 1 + 1, 2, none⟩ = some (.int .i64 0) := by { rw [cellB hb6 _ _ (by first | (simp; done) | (simp; omega) | omega)]; all_goals (first | assumption | go_simp) }; have v3 : w6.cell? ⟨w.heap.size + 1 + 1, 3, none⟩ = some (.int .i64 0) := by { rw [cellB hb6 _ _ (by first | (simp; done) | (simp; omega) | omega)]; all_goals (first | assumption | go_simp) }; have vf0 : w6.frozen? ⟨w.heap.size + 1 + 1, 0, none⟩ = false := by { rw [frozenB hb6 _ _ (by first | (simp; done) | (simp; omega) | omega)]; all_goals (first | assumption | go_simp) }; have vf1 : w6.frozen? ⟨w.heap.size + 1 + 1, 1, none⟩ = false := by { rw [frozenB hb6 _ _ (by first | (simp; done) | (simp; omega) | omega)]; all_goals (first | assumption | go_simp) }; have vf2 : w6.frozen? ⟨w.heap.size + 1 + 1, 2, none⟩ = false := by { rw [frozenB hb6 _ _ (by first | (simp; done) | (simp; omega) | omega)]; all_goals (first | assumption | go_simp) }; have vf3 : w6.frozen? ⟨w.heap.size + 1 + 1, 3, none⟩ = false := by { rw [frozenB hb6 _ _ (by first | (simp; done) | (simp; omega) | omega)]; all_goals (first | assumption | go_simp) }; have x0' : w6.cell? ⟨w.heap.size + 1, 0, none⟩ = some (.int .i64 p2) := by { rw [cellB hb6 _ _ (by first | (simp; done) | (simp; omega) | omega)]; all_goals (first | assumption | go_simp) }; have x1' : w6.cell? ⟨w.heap.size + 1, 1, none⟩ = some (.int .i64 q2) := by { rw [cellB hb6 _ _ (by first | (simp; done) | (simp; omega) | omega)]; all_goals (first | assumption | go_simp) }; have y0' : w6.cell? ⟨w.heap.size, 0, none⟩ = some (.int .i64 p) := by { rw [cellB hb6 _ _ (by first | (simp; done) | (simp; omega) | omega)]; all_goals (first | assumption | go_simp) }; have y1' : w6.cell? ⟨w.heap.size, 1, none⟩ = some (.int .i64 q) := by { rw [cellB hb6 _ _ (by first | (simp; done) | (simp; omega) | omega)]; all_goals (first | assumption | go_simp) }
      have HB6 := Lib.hid (HB5.out.trans (hb6.mono HB5.out.size))
      clear hb6
      go_wp2
      refine bodyPost_ret (v := .tuple #[.agg #[.int .i64 p, .int .i64 q, .int .i64 p2, .int .i64 q2], .int .i64 0]) (by simp [results, Try.results82, go_sem, v0, v1, v2, v3]) rfl ⟨rfl, ?_⟩
      have := HB6.out
      (repeat' (first | (with_reducible exact Below.refl _ _) | (with_reducible assumption) | (with_reducible refine Below.drewN ?_ _) | (with_reducible refine Below.alloc ?_ ?_ _) | (with_reducible refine Below.drew ?_) | (with_reducible refine Below.setCell ?_ ?_ _) | (with_reducible refine Below.step (by assumption) ?_ ?_) | (with_reducible exact And.left (by assumption)) | go_size))
/-- The errors of a gap's span. -/
def gapErr (s e : List (Int × Int)) (gap : Int) : Int := firstErr [rngErr s e, unl (wi gap 0 ((s.length : Int) - 1)) 6]
theorem checkRanges_any (s e : List (Int × Int)) (a a1 : Option Addr) (n c n1 c1 : Nat) (g : Bool) (w : World) (hs : PairsR w a n s) (he : PairsR w a1 n1 e) :
    Calls Try.prog 76 #[.agg #[.slice a n c, .slice a1 n1 c1, .bool g]] w fun e' w' => e' = .returned (.int .i64 (rngErr s e)) ∧ Below w.heap.size w w' := by
  have l0 := hs.len
  have l1 := he.len
  by_cases h : 0 < n ∧ n1 = n
  · by_cases h6 : n ≤ 6
    · have := checkRanges_ok s e a a1 n c n1 c1 g w hs he h.1 h.2 h6
      rwa [show rgScan s e n 0 = rngErr s e by unfold rngErr; rw [if_pos (by omega), if_pos (by omega), l0]] at this
    · exact checkRanges_bad a a1 n c n1 c1 g w _ (.inl ⟨h.1, h.2, by omega, hs.small, by unfold rngErr; rw [if_pos (by omega), if_neg (by omega)]⟩) he.small
  · exact checkRanges_bad a a1 n c n1 c1 g w _ (.inr ⟨h, hs.small, by unfold rngErr; rw [if_neg (by omega)]⟩) he.small
end Go.Proofs.Ytbjgklifmillgaa

/- The span of a gap: the exported function. -/
namespace Go.Proofs.Ytbjgklifmillgaa
open Go.RowKit
set_option linter.unusedVariables false

set_option maxRecDepth 100000 in
theorem gapSpan_bad (s e : List (Int × Int)) (a a1 : Option Addr) (n c n1 c1 : Nat) (g : Bool) (gap E : Int) (w : World) (hs : PairsR w a n s) (he : PairsR w a1 n1 e) (hE : gapErr s e gap = E) (h0 : E ≠ 0) (bg : -9223372036854775808 ≤ gap) (bg2 : gap ≤ 9223372036854775807) :
    Calls Try.prog 33 #[.agg #[.slice a n c, .slice a1 n1 c1, .bool g], .int .i64 gap] w fun e' w' => e' = .returned (.tuple #[.agg #[.int .i64 0, .int .i64 0, .int .i64 0, .int .i64 0], .int .i64 E]) ∧ Below w.heap.size w w' := by
  have HC := Lib.hid (fun (w' : World) (hb : Below w.heap.size w w') => checkRanges_any s e a a1 n c n1 c1 g w' (hs.below hb) (he.below hb))
  have hn := hs.small
  unfold gapErr at hE
  rw [hs.len] at hE
  clear hs he
  generalize rngErr s e = r at *
  obtain ⟨gb, hgb⟩ : ∃ b, b = wi gap 0 ((n : Int) - 1) := ⟨_, rfl⟩
  rw [← hgb] at hE
  have HG := Lib.hid hgb
  have HE := Lib.hid hE
  have h1 : (E != 0) = true := by simpa using h0
  clear hgb hE h0
  go_enter Try.func33, Try.ntmps33
  go_wp2_with fail
  generalize hW : ((w.alloc _).alloc _).alloc _ = w0
  have hb0 : Below w.heap.size w w0 := by rw [← hW]; (repeat' (first | (with_reducible exact Below.refl _ _) | (with_reducible assumption) | (with_reducible refine Below.drewN ?_ _) | (with_reducible refine Below.alloc ?_ ?_ _) | (with_reducible refine Below.drew ?_) | (with_reducible refine Below.setCell ?_ ?_ _) | (with_reducible refine Below.step (by assumption) ?_ ?_) | (with_reducible exact And.left (by assumption)) | go_size))
  have s0 : w0.cell? ⟨w.heap.size + 1 + 1, 0, none⟩ = some (.int .i64 0) := by { rw [← hW]; clear hW; go_simp }; have sf0 : w0.frozen? ⟨w.heap.size + 1 + 1, 0, none⟩ = false := by { rw [← hW]; clear hW; go_simp }; have s1 : w0.cell? ⟨w.heap.size + 1 + 1, 1, none⟩ = some (.int .i64 0) := by { rw [← hW]; clear hW; go_simp }; have sf1 : w0.frozen? ⟨w.heap.size + 1 + 1, 1, none⟩ = false := by { rw [← hW]; clear hW; go_simp }; have s2 : w0.cell? ⟨w.heap.size + 1 + 1, 2, none⟩ = some (.int .i64 0) := by { rw [← hW]; clear hW; go_simp }; have sf2 : w0.frozen? ⟨w.heap.size + 1 + 1, 2, none⟩ = false := by { rw [← hW]; clear hW; go_simp }; have s3 : w0.cell? ⟨w.heap.size + 1 + 1, 3, none⟩ = some (.int .i64 0) := by { rw [← hW]; clear hW; go_simp }; have sf3 : w0.frozen? ⟨w.heap.size + 1 + 1, 3, none⟩ = false := by { rw [← hW]; clear hW; go_simp }
  have sr0 : w0.cell? ⟨w.heap.size, 0, none⟩ = some (.slice a n c) := by { rw [← hW]; clear hW; go_simp }
  have sr1 : w0.cell? ⟨w.heap.size, 1, none⟩ = some (.slice a1 n1 c1) := by { rw [← hW]; clear hW; go_simp }
  have sr2 : w0.cell? ⟨w.heap.size, 2, none⟩ = some (.bool g) := by { rw [← hW]; clear hW; go_simp }
  have srg : w0.cell? ⟨w.heap.size + 1, 0, none⟩ = some (.int .i64 gap) := by { rw [← hW]; clear hW; go_simp }
  have hz0 : w0.heap.size = w.heap.size + 1 + 1 + 1 := by rw [← hW]; simp
  have HB0 := Lib.hid hb0
  clear hW hb0
  refine later_of_eq 7 (by kernel_rfl) (by kernel_rfl) ?_; simp only [List.take_succ_cons, List.take_zero, List.drop_succ_cons, List.drop_zero]; repeat go_big_quiet_step (exact calls_later (HC.out _ (HB0.out.trans (Below.mono (Later.below _) (by omega)))))
  refine wpQuiet_nil ?_; intro w5 hb5
  have hz5 := hb5.size
  have u0 : w5.cell? ⟨w.heap.size + 1 + 1, 0, none⟩ = some (.int .i64 0) := by { rw [cellB hb5 _ _ (by first | (simp; done) | (simp; omega) | omega)]; all_goals (first | assumption | go_simp) }; have u1 : w5.cell? ⟨w.heap.size + 1 + 1, 1, none⟩ = some (.int .i64 0) := by { rw [cellB hb5 _ _ (by first | (simp; done) | (simp; omega) | omega)]; all_goals (first | assumption | go_simp) }; have u2 : w5.cell? ⟨w.heap.size + 1 + 1, 2, none⟩ = some (.int .i64 0) := by { rw [cellB hb5 _ _ (by first | (simp; done) | (simp; omega) | omega)]; all_goals (first | assumption | go_simp) }; have u3 : w5.cell? ⟨w.heap.size + 1 + 1, 3, none⟩ = some (.int .i64 0) := by { rw [cellB hb5 _ _ (by first | (simp; done) | (simp; omega) | omega)]; all_goals (first | assumption | go_simp) }; have uf0 : w5.frozen? ⟨w.heap.size + 1 + 1, 0, none⟩ = false := by { rw [frozenB hb5 _ _ (by first | (simp; done) | (simp; omega) | omega)]; all_goals (first | assumption | go_simp) }; have uf1 : w5.frozen? ⟨w.heap.size + 1 + 1, 1, none⟩ = false := by { rw [frozenB hb5 _ _ (by first | (simp; done) | (simp; omega) | omega)]; all_goals (first | assumption | go_simp) }; have uf2 : w5.frozen? ⟨w.heap.size + 1 + 1, 2, none⟩ = false := by { rw [frozenB hb5 _ _ (by first | (simp; done) | (simp; omega) | omega)]; all_goals (first | assumption | go_simp) }; have uf3 : w5.frozen? ⟨w.heap.size + 1 + 1, 3, none⟩ = false := by { rw [frozenB hb5 _ _ (by first | (simp; done) | (simp; omega) | omega)]; all_goals (first | assumption | go_simp) }; have ur0 : w5.cell? ⟨w.heap.size, 0, none⟩ = some (.slice a n c) := by { rw [cellB hb5 _ _ (by first | (simp; done) | (simp; omega) | omega)]; all_goals (first | assumption | go_simp) }; have ur1 : w5.cell? ⟨w.heap.size, 1, none⟩ = some (.slice a1 n1 c1) := by { rw [cellB hb5 _ _ (by first | (simp; done) | (simp; omega) | omega)]; all_goals (first | assumption | go_simp) }; have ur2 : w5.cell? ⟨w.heap.size, 2, none⟩ = some (.bool g) := by { rw [cellB hb5 _ _ (by first | (simp; done) | (simp; omega) | omega)]; all_goals (first | assumption | go_simp) }; have urg : w5.cell? ⟨w.heap.size + 1, 0, none⟩ = some (.int .i64 gap) := by { rw [cellB hb5 _ _ (by first | (simp; done) | (simp; omega) | omega)]; all_goals (first | assumption | go_simp) }; have ul0 : w.heap.size < w5.heap.size := by { omega }; have ul1 : w.heap.size + 1 < w5.heap.size := by { omega }; have ul2 : w.heap.size + 1 + 1 < w5.heap.size := by { omega }
  have HB5 := Lib.hid (HB0.out.trans (hb5.mono (by omega)))
  clear hb5 HC s0 s1 s2 s3 sf0 sf1 sf2 sf3 sr0 sr1 sr2 srg HB0
  go_wp2_with fail
  refine (within_any _ _ _ _).mono ?_
  rintro e6 w6 ⟨rfl, rfl⟩
  rw [← HG.out]
  go_wp2_with fail
  refine (unless_any _ _ _).mono ?_
  rintro e6 w6 ⟨rfl, rfl⟩
  go_wp2_with fail
  refine (first2 _ _ _ _ _ _ (by rfl) (by simp)).mono ?_
  rintro e6 w6 ⟨rfl, rfl⟩
  rw [HE.out]
  generalize hW : w5.alloc _ = w6
  have hb6 : Below w5.heap.size w5 w6 := by rw [← hW]; (repeat' (first | (with_reducible exact Below.refl _ _) | (with_reducible assumption) | (with_reducible refine Below.drewN ?_ _) | (with_reducible refine Below.alloc ?_ ?_ _) | (with_reducible refine Below.drew ?_) | (with_reducible refine Below.setCell ?_ ?_ _) | (with_reducible refine Below.step (by assumption) ?_ ?_) | (with_reducible exact And.left (by assumption)) | go_size))
  have hz6 := hb6.size
  have v0 : w6.cell? ⟨w.heap.size + 1 + 1, 0, none⟩ = some (.int .i64 0) := by { rw [cellB hb6 _ _ (by first | (simp; done) | (simp; omega) | omega)]; all_goals (first | assumption | go_simp) }; have v1 : w6.cell? ⟨w.heap.size + 1 + 1, 1, none⟩ = some (.int .i64 0) := by { rw [cellB hb6 _ _ (by first | (simp; done) | (simp; omega) | omega)]; all_goals (first | assumption | go_simp) }; have v2 : w6.cell? ⟨w.heap.size + 1 + 1, 2, none⟩ = some (.int .i64 0) := by { rw [cellB hb6 _ _ (by first | (simp; done) | (simp; omega) | omega)]; all_goals (first | assumption | go_simp) }; have v3 : w6.cell? ⟨w.heap.size + 1 + 1, 3, none⟩ = some (.int .i64 0) := by { rw [cellB hb6 _ _ (by first | (simp; done) | (simp; omega) | omega)]; all_goals (first | assumption | go_simp) }; have vf0 : w6.frozen? ⟨w.heap.size + 1 + 1, 0, none⟩ = false := by { rw [frozenB hb6 _ _ (by first | (simp; done) | (simp; omega) | omega)]; all_goals (first | assumption | go_simp) }; have vf1 : w6.frozen? ⟨w.heap.size + 1 + 1, 1, none⟩ = false := by { rw [frozenB hb6 _ _ (by first | (simp; done) | (simp; omega) | omega)]; all_goals (first | assumption | go_simp) }; have vf2 : w6.frozen? ⟨w.heap.size + 1 + 1, 2, none⟩ = false := by { rw [frozenB hb6 _ _ (by first | (simp; done) | (simp; omega) | omega)]; all_goals (first | assumption | go_simp) }; have vf3 : w6.frozen? ⟨w.heap.size + 1 + 1, 3, none⟩ = false := by { rw [frozenB hb6 _ _ (by first | (simp; done) | (simp; omega) | omega)]; all_goals (first | assumption | go_simp) }; have vr0 : w6.cell? ⟨w.heap.size, 0, none⟩ = some (.slice a n c) := by { rw [cellB hb6 _ _ (by first | (simp; done) | (simp; omega) | omega)]; all_goals (first | assumption | go_simp) }; have vr1 : w6.cell? ⟨w.heap.size, 1, none⟩ = some (.slice a1 n1 c1) := by { rw [cellB hb6 _ _ (by first | (simp; done) | (simp; omega) | omega)]; all_goals (first | assumption | go_simp) }; have vr2 : w6.cell? ⟨w.heap.size, 2, none⟩ = some (.bool g) := by { rw [cellB hb6 _ _ (by first | (simp; done) | (simp; omega) | omega)]; all_goals (first | assumption | go_simp) }; have vrg : w6.cell? ⟨w.heap.size + 1, 0, none⟩ = some (.int .i64 gap) := by { rw [cellB hb6 _ _ (by first | (simp; done) | (simp; omega) | omega)]; all_goals (first | assumption | go_simp) }; have vl0 : w.heap.size < w6.heap.size := by { omega }; have vl1 : w.heap.size + 1 < w6.heap.size := by { omega }; have vl2 : w.heap.size + 1 + 1 < w6.heap.size := by { omega }
  have HB6 := Lib.hid (HB5.out.trans (hb6.mono HB5.out.size))
  clear hW hb6 u0 uf0 u1 uf1 u2 uf2 u3 uf3 ur0 ur1 ur2 urg ul0 ul1 ul2 HB5
  go_wp2
  refine bodyPost_ret (v := .tuple #[.agg #[.int .i64 0, .int .i64 0, .int .i64 0, .int .i64 0], .int .i64 E]) (by simp [results, Try.results33, go_sem, v0, v1, v2, v3]) rfl ⟨rfl, ?_⟩
  have := HB6.out
  (repeat' (first | (with_reducible exact Below.refl _ _) | (with_reducible assumption) | (with_reducible refine Below.drewN ?_ _) | (with_reducible refine Below.alloc ?_ ?_ _) | (with_reducible refine Below.drew ?_) | (with_reducible refine Below.setCell ?_ ?_ _) | (with_reducible refine Below.step (by assumption) ?_ ?_) | (with_reducible exact And.left (by assumption)) | go_size))

set_option maxHeartbeats 1000000 in
set_option maxRecDepth 100000 in
theorem gapSpan_ok (s e : List (Int × Int)) (a a1 : Option Addr) (n c n1 c1 L k : Nat) (g : Bool) (gap : Int) (hgap : gap = (k : Int)) (w : World) (hs : PairsR w a n s) (he : PairsR w a1 n1 e) (h0 : rngErr s e = 0) (hL : lastOf n g = L) (hk : k < n) :
    Calls Try.prog 33 #[.agg #[.slice a n c, .slice a1 n1 c1, .bool g], .int .i64 gap] w fun e' w' => e' = .returned (.tuple (if smallF (gapFr s e n L k false) && smallF (gapFr s e n L k true) then #[.agg #[.int .i64 (gapFr s e n L k false).1, .int .i64 (gapFr s e n L k false).2, .int .i64 (gapFr s e n L k true).1, .int .i64 (gapFr s e n L k true).2], .int .i64 0] else #[.agg #[.int .i64 0, .int .i64 0, .int .i64 0, .int .i64 0], .int .i64 8])) ∧ Below w.heap.size w w' := by
  have HC := Lib.hid (fun (w' : World) (hb : Below w.heap.size w w') => checkRanges_any s e a a1 n c n1 c1 g w' (hs.below hb) (he.below hb))
  rw [h0] at HC
  have hn := hs.small
  have HAT := Lib.hid (fun (high : Bool) (w' : World) (O A : Nat) (hb : Below w.heap.size w w') r0 r1 r2 ro ra rg l1 l2 l3 l4 => gs3_any s e a a1 n c n1 c1 L k w.heap.size O A (w.heap.size + 1) g high w' (hs.below hb) (he.below hb) h0 hL hk r0 r1 r2 ro ra rg l1 l2 l3 l4)
  clear hs he h0 hL
  obtain ⟨⟨p, q⟩, hf1⟩ : ∃ f, gapFr s e n L k false = f := ⟨_, rfl⟩
  obtain ⟨⟨p2, q2⟩, hf2⟩ : ∃ f, gapFr s e n L k true = f := ⟨_, rfl⟩
  have HAT1 := Lib.hid (HAT.out false)
  have HAT2 := Lib.hid (HAT.out true)
  rw [hf1] at HAT1 ⊢
  rw [hf2] at HAT2 ⊢
  clear hf1 hf2 HAT
  have HSP := Lib.hid (fun w' => span_any p q p2 q2 w')
  generalize (smallF (p, q) && smallF (p2, q2)) = S at *
  obtain ⟨gb, hgb⟩ : ∃ b, b = wi (k : Int) 0 ((n : Int) - 1) := ⟨_, rfl⟩
  obtain rfl : gb = true := by rw [hgb, wi_iff]; omega
  have HG := Lib.hid hgb
  have HE := Lib.hid (show firstErr [0, unl true 6] = 0 from rfl)
  rw [← hgap] at HG
  clear hgb
  rw [← hgap] at HAT1 HAT2
  have bg : 0 ≤ gap ∧ gap ≤ 9223372036854775807 := by omega
  clear hgap
  go_enter Try.func33, Try.ntmps33
  go_wp2_with fail
  generalize hW : ((w.alloc _).alloc _).alloc _ = w0
  have hb0 : Below w.heap.size w w0 := by rw [← hW]; (repeat' (first | (with_reducible exact Below.refl _ _) | (with_reducible assumption) | (with_reducible refine Below.drewN ?_ _) | (with_reducible refine Below.alloc ?_ ?_ _) | (with_reducible refine Below.drew ?_) | (with_reducible refine Below.setCell ?_ ?_ _) | (with_reducible refine Below.step (by assumption) ?_ ?_) | (with_reducible exact And.left (by assumption)) | go_size))
  have s0 : w0.cell? ⟨w.heap.size + 1 + 1, 0, none⟩ = some (.int .i64 0) := by { rw [← hW]; clear hW; go_simp }; have sf0 : w0.frozen? ⟨w.heap.size + 1 + 1, 0, none⟩ = false := by { rw [← hW]; clear hW; go_simp }; have s1 : w0.cell? ⟨w.heap.size + 1 + 1, 1, none⟩ = some (.int .i64 0) := by { rw [← hW]; clear hW; go_simp }; have sf1 : w0.frozen? ⟨w.heap.size + 1 + 1, 1, none⟩ = false := by { rw [← hW]; clear hW; go_simp }; have s2 : w0.cell? ⟨w.heap.size + 1 + 1, 2, none⟩ = some (.int .i64 0) := by { rw [← hW]; clear hW; go_simp }; have sf2 : w0.frozen? ⟨w.heap.size + 1 + 1, 2, none⟩ = false := by { rw [← hW]; clear hW; go_simp }; have s3 : w0.cell? ⟨w.heap.size + 1 + 1, 3, none⟩ = some (.int .i64 0) := by { rw [← hW]; clear hW; go_simp }; have sf3 : w0.frozen? ⟨w.heap.size + 1 + 1, 3, none⟩ = false := by { rw [← hW]; clear hW; go_simp }
  have sr0 : w0.cell? ⟨w.heap.size, 0, none⟩ = some (.slice a n c) := by { rw [← hW]; clear hW; go_simp }
  have sr1 : w0.cell? ⟨w.heap.size, 1, none⟩ = some (.slice a1 n1 c1) := by { rw [← hW]; clear hW; go_simp }
  have sr2 : w0.cell? ⟨w.heap.size, 2, none⟩ = some (.bool g) := by { rw [← hW]; clear hW; go_simp }
  have srg : w0.cell? ⟨w.heap.size + 1, 0, none⟩ = some (.int .i64 gap) := by { rw [← hW]; clear hW; go_simp }
  have hz0 : w0.heap.size = w.heap.size + 1 + 1 + 1 := by rw [← hW]; simp
  have HB0 := Lib.hid hb0
  clear hW hb0
  refine later_of_eq 7 (by kernel_rfl) (by kernel_rfl) ?_; simp only [List.take_succ_cons, List.take_zero, List.drop_succ_cons, List.drop_zero]; repeat go_big_quiet_step (exact calls_later (HC.out _ (HB0.out.trans (Below.mono (Later.below _) (by omega)))))
  refine wpQuiet_nil ?_; intro w5 hb5
  have hz5 := hb5.size
  have u0 : w5.cell? ⟨w.heap.size + 1 + 1, 0, none⟩ = some (.int .i64 0) := by { rw [cellB hb5 _ _ (by first | (simp; done) | (simp; omega) | omega)]; all_goals (first | assumption | go_simp) }; have u1 : w5.cell? ⟨w.heap.size + 1 + 1, 1, none⟩ = some (.int .i64 0) := by { rw [cellB hb5 _ _ (by first | (simp; done) | (simp; omega) | omega)]; all_goals (first | assumption | go_simp) }; have u2 : w5.cell? ⟨w.heap.size + 1 + 1, 2, none⟩ = some (.int .i64 0) := by { rw [cellB hb5 _ _ (by first | (simp; done) | (simp; omega) | omega)]; all_goals (first | assumption | go_simp) }; have u3 : w5.cell? ⟨w.heap.size + 1 + 1, 3, none⟩ = some (.int .i64 0) := by { rw [cellB hb5 _ _ (by first | (simp; done) | (simp; omega) | omega)]; all_goals (first | assumption | go_simp) }; have uf0 : w5.frozen? ⟨w.heap.size + 1 + 1, 0, none⟩ = false := by { rw [frozenB hb5 _ _ (by first | (simp; done) | (simp; omega) | omega)]; all_goals (first | assumption | go_simp) }; have uf1 : w5.frozen? ⟨w.heap.size + 1 + 1, 1, none⟩ = false := by { rw [frozenB hb5 _ _ (by first | (simp; done) | (simp; omega) | omega)]; all_goals (first | assumption | go_simp) }; have uf2 : w5.frozen? ⟨w.heap.size + 1 + 1, 2, none⟩ = false := by { rw [frozenB hb5 _ _ (by first | (simp; done) | (simp; omega) | omega)]; all_goals (first | assumption | go_simp) }; have uf3 : w5.frozen? ⟨w.heap.size + 1 + 1, 3, none⟩ = false := by { rw [frozenB hb5 _ _ (by first | (simp; done) | (simp; omega) | omega)]; all_goals (first | assumption | go_simp) }; have ur0 : w5.cell? ⟨w.heap.size, 0, none⟩ = some (.slice a n c) := by { rw [cellB hb5 _ _ (by first | (simp; done) | (simp; omega) | omega)]; all_goals (first | assumption | go_simp) }; have ur1 : w5.cell? ⟨w.heap.size, 1, none⟩ = some (.slice a1 n1 c1) := by { rw [cellB hb5 _ _ (by first | (simp; done) | (simp; omega) | omega)]; all_goals (first | assumption | go_simp) }; have ur2 : w5.cell? ⟨w.heap.size, 2, none⟩ = some (.bool g) := by { rw [cellB hb5 _ _ (by first | (simp; done) | (simp; omega) | omega)]; all_goals (first | assumption | go_simp) }; have urg : w5.cell? ⟨w.heap.size + 1, 0, none⟩ = some (.int .i64 gap) := by { rw [cellB hb5 _ _ (by first | (simp; done) | (simp; omega) | omega)]; all_goals (first | assumption | go_simp) }; have ul0 : w.heap.size < w5.heap.size := by { omega }; have ul1 : w.heap.size + 1 < w5.heap.size := by { omega }; have ul2 : w.heap.size + 1 + 1 < w5.heap.size := by { omega }
  have HB5 := Lib.hid (HB0.out.trans (hb5.mono (by omega)))
  clear hb5 HC s0 s1 s2 s3 sf0 sf1 sf2 sf3 sr0 sr1 sr2 srg HB0
  go_wp2_with fail
  refine (within_any _ _ _ _).mono ?_
  rintro e6 w6 ⟨rfl, rfl⟩
  rw [← HG.out]
  go_wp2_with fail
  refine (unless_any _ _ _).mono ?_
  rintro e6 w6 ⟨rfl, rfl⟩
  go_wp2_with fail
  refine (first2 _ _ _ _ _ _ (by rfl) (by simp)).mono ?_
  rintro e6 w6 ⟨rfl, rfl⟩
  rw [HE.out]
  generalize hW : w5.alloc _ = w6
  have hb6 : Below w5.heap.size w5 w6 := by rw [← hW]; (repeat' (first | (with_reducible exact Below.refl _ _) | (with_reducible assumption) | (with_reducible refine Below.drewN ?_ _) | (with_reducible refine Below.alloc ?_ ?_ _) | (with_reducible refine Below.drew ?_) | (with_reducible refine Below.setCell ?_ ?_ _) | (with_reducible refine Below.step (by assumption) ?_ ?_) | (with_reducible exact And.left (by assumption)) | go_size))
  have hz6 := hb6.size
  have v0 : w6.cell? ⟨w.heap.size + 1 + 1, 0, none⟩ = some (.int .i64 0) := by { rw [cellB hb6 _ _ (by first | (simp; done) | (simp; omega) | omega)]; all_goals (first | assumption | go_simp) }; have v1 : w6.cell? ⟨w.heap.size + 1 + 1, 1, none⟩ = some (.int .i64 0) := by { rw [cellB hb6 _ _ (by first | (simp; done) | (simp; omega) | omega)]; all_goals (first | assumption | go_simp) }; have v2 : w6.cell? ⟨w.heap.size + 1 + 1, 2, none⟩ = some (.int .i64 0) := by { rw [cellB hb6 _ _ (by first | (simp; done) | (simp; omega) | omega)]; all_goals (first | assumption | go_simp) }; have v3 : w6.cell? ⟨w.heap.size + 1 + 1, 3, none⟩ = some (.int .i64 0) := by { rw [cellB hb6 _ _ (by first | (simp; done) | (simp; omega) | omega)]; all_goals (first | assumption | go_simp) }; have vf0 : w6.frozen? ⟨w.heap.size + 1 + 1, 0, none⟩ = false := by { rw [frozenB hb6 _ _ (by first | (simp; done) | (simp; omega) | omega)]; all_goals (first | assumption | go_simp) }; have vf1 : w6.frozen? ⟨w.heap.size + 1 + 1, 1, none⟩ = false := by { rw [frozenB hb6 _ _ (by first | (simp; done) | (simp; omega) | omega)]; all_goals (first | assumption | go_simp) }; have vf2 : w6.frozen? ⟨w.heap.size + 1 + 1, 2, none⟩ = false := by { rw [frozenB hb6 _ _ (by first | (simp; done) | (simp; omega) | omega)]; all_goals (first | assumption | go_simp) }; have vf3 : w6.frozen? ⟨w.heap.size + 1 + 1, 3, none⟩ = false := by { rw [frozenB hb6 _ _ (by first | (simp; done) | (simp; omega) | omega)]; all_goals (first | assumption | go_simp) }; have vr0 : w6.cell? ⟨w.heap.size, 0, none⟩ = some (.slice a n c) := by { rw [cellB hb6 _ _ (by first | (simp; done) | (simp; omega) | omega)]; all_goals (first | assumption | go_simp) }; have vr1 : w6.cell? ⟨w.heap.size, 1, none⟩ = some (.slice a1 n1 c1) := by { rw [cellB hb6 _ _ (by first | (simp; done) | (simp; omega) | omega)]; all_goals (first | assumption | go_simp) }; have vr2 : w6.cell? ⟨w.heap.size, 2, none⟩ = some (.bool g) := by { rw [cellB hb6 _ _ (by first | (simp; done) | (simp; omega) | omega)]; all_goals (first | assumption | go_simp) }; have vrg : w6.cell? ⟨w.heap.size + 1, 0, none⟩ = some (.int .i64 gap) := by { rw [cellB hb6 _ _ (by first | (simp; done) | (simp; omega) | omega)]; all_goals (first | assumption | go_simp) }; have vl0 : w.heap.size < w6.heap.size := by { omega }; have vl1 : w.heap.size + 1 < w6.heap.size := by { omega }; have vl2 : w.heap.size + 1 + 1 < w6.heap.size := by { omega }
  have HB6 := Lib.hid (HB5.out.trans (hb6.mono HB5.out.size))
  clear hW hb6 u0 uf0 u1 uf1 u2 uf2 u3 uf3 ur0 ur1 ur2 urg ul0 ul1 ul2 HB5
  go_wp2_with fail
  generalize hW : (w6.alloc _).alloc _ = w7
  have ro : w7.cell? ⟨w6.heap.size, 0, none⟩ = some (.func (.func 77) #[] #[.pointer (some ⟨w.heap.size + 1, 0, none⟩)]) := by { rw [← hW]; clear hW; go_simp }
  have ra : w7.cell? ⟨w6.heap.size + 1, 0, none⟩ = some (.func (.func 78) #[] #[.pointer (some ⟨w.heap.size + 1, 0, none⟩)]) := by { rw [← hW]; clear hW; go_simp }
  have lo : w6.heap.size < w7.heap.size := by { rw [← hW]; simp; omega }
  have la : w6.heap.size + 1 < w7.heap.size := by { rw [← hW]; simp }
  have hb7 : Below w6.heap.size w6 w7 := by rw [← hW]; (repeat' (first | (with_reducible exact Below.refl _ _) | (with_reducible assumption) | (with_reducible refine Below.drewN ?_ _) | (with_reducible refine Below.alloc ?_ ?_ _) | (with_reducible refine Below.drew ?_) | (with_reducible refine Below.setCell ?_ ?_ _) | (with_reducible refine Below.step (by assumption) ?_ ?_) | (with_reducible exact And.left (by assumption)) | go_size))
  have hz7 := hb7.size
  have u0 : w7.cell? ⟨w.heap.size + 1 + 1, 0, none⟩ = some (.int .i64 0) := by { rw [cellB hb7 _ _ (by first | (simp; done) | (simp; omega) | omega)]; all_goals (first | assumption | go_simp) }; have u1 : w7.cell? ⟨w.heap.size + 1 + 1, 1, none⟩ = some (.int .i64 0) := by { rw [cellB hb7 _ _ (by first | (simp; done) | (simp; omega) | omega)]; all_goals (first | assumption | go_simp) }; have u2 : w7.cell? ⟨w.heap.size + 1 + 1, 2, none⟩ = some (.int .i64 0) := by { rw [cellB hb7 _ _ (by first | (simp; done) | (simp; omega) | omega)]; all_goals (first | assumption | go_simp) }; have u3 : w7.cell? ⟨w.heap.size + 1 + 1, 3, none⟩ = some (.int .i64 0) := by { rw [cellB hb7 _ _ (by first | (simp; done) | (simp; omega) | omega)]; all_goals (first | assumption | go_simp) }; have uf0 : w7.frozen? ⟨w.heap.size + 1 + 1, 0, none⟩ = false := by { rw [frozenB hb7 _ _ (by first | (simp; done) | (simp; omega) | omega)]; all_goals (first | assumption | go_simp) }; have uf1 : w7.frozen? ⟨w.heap.size + 1 + 1, 1, none⟩ = false := by { rw [frozenB hb7 _ _ (by first | (simp; done) | (simp; omega) | omega)]; all_goals (first | assumption | go_simp) }; have uf2 : w7.frozen? ⟨w.heap.size + 1 + 1, 2, none⟩ = false := by { rw [frozenB hb7 _ _ (by first | (simp; done) | (simp; omega) | omega)]; all_goals (first | assumption | go_simp) }; have uf3 : w7.frozen? ⟨w.heap.size + 1 + 1, 3, none⟩ = false := by { rw [frozenB hb7 _ _ (by first | (simp; done) | (simp; omega) | omega)]; all_goals (first | assumption | go_simp) }; have ur0 : w7.cell? ⟨w.heap.size, 0, none⟩ = some (.slice a n c) := by { rw [cellB hb7 _ _ (by first | (simp; done) | (simp; omega) | omega)]; all_goals (first | assumption | go_simp) }; have ur1 : w7.cell? ⟨w.heap.size, 1, none⟩ = some (.slice a1 n1 c1) := by { rw [cellB hb7 _ _ (by first | (simp; done) | (simp; omega) | omega)]; all_goals (first | assumption | go_simp) }; have ur2 : w7.cell? ⟨w.heap.size, 2, none⟩ = some (.bool g) := by { rw [cellB hb7 _ _ (by first | (simp; done) | (simp; omega) | omega)]; all_goals (first | assumption | go_simp) }; have urg : w7.cell? ⟨w.heap.size + 1, 0, none⟩ = some (.int .i64 gap) := by { rw [cellB hb7 _ _ (by first | (simp; done) | (simp; omega) | omega)]; all_goals (first | assumption | go_simp) }; have ul0 : w.heap.size < w7.heap.size := by { omega }; have ul1 : w.heap.size + 1 < w7.heap.size := by { omega }; have ul2 : w.heap.size + 1 + 1 < w7.heap.size := by { omega }
  have HB7 := Lib.hid (HB6.out.trans (hb7.mono HB6.out.size))
  clear hW hb7 v0 vf0 v1 vf1 v2 vf2 v3 vf3 vr0 vr1 vr2 vrg vl0 vl1 vl2 HB6
  refine (HAT1.out _ _ _ HB7.out ur0 ur1 ur2 ro ra urg ul0 lo la ul1).mono ?_
  rintro e8 w8 ⟨rfl, hb8⟩
  have hz8 := hb8.size
  have v0 : w8.cell? ⟨w.heap.size + 1 + 1, 0, none⟩ = some (.int .i64 0) := by { rw [cellB hb8 _ _ (by first | (simp; done) | (simp; omega) | omega)]; all_goals (first | assumption | go_simp) }; have v1 : w8.cell? ⟨w.heap.size + 1 + 1, 1, none⟩ = some (.int .i64 0) := by { rw [cellB hb8 _ _ (by first | (simp; done) | (simp; omega) | omega)]; all_goals (first | assumption | go_simp) }; have v2 : w8.cell? ⟨w.heap.size + 1 + 1, 2, none⟩ = some (.int .i64 0) := by { rw [cellB hb8 _ _ (by first | (simp; done) | (simp; omega) | omega)]; all_goals (first | assumption | go_simp) }; have v3 : w8.cell? ⟨w.heap.size + 1 + 1, 3, none⟩ = some (.int .i64 0) := by { rw [cellB hb8 _ _ (by first | (simp; done) | (simp; omega) | omega)]; all_goals (first | assumption | go_simp) }; have vf0 : w8.frozen? ⟨w.heap.size + 1 + 1, 0, none⟩ = false := by { rw [frozenB hb8 _ _ (by first | (simp; done) | (simp; omega) | omega)]; all_goals (first | assumption | go_simp) }; have vf1 : w8.frozen? ⟨w.heap.size + 1 + 1, 1, none⟩ = false := by { rw [frozenB hb8 _ _ (by first | (simp; done) | (simp; omega) | omega)]; all_goals (first | assumption | go_simp) }; have vf2 : w8.frozen? ⟨w.heap.size + 1 + 1, 2, none⟩ = false := by { rw [frozenB hb8 _ _ (by first | (simp; done) | (simp; omega) | omega)]; all_goals (first | assumption | go_simp) }; have vf3 : w8.frozen? ⟨w.heap.size + 1 + 1, 3, none⟩ = false := by { rw [frozenB hb8 _ _ (by first | (simp; done) | (simp; omega) | omega)]; all_goals (first | assumption | go_simp) }; have vr0 : w8.cell? ⟨w.heap.size, 0, none⟩ = some (.slice a n c) := by { rw [cellB hb8 _ _ (by first | (simp; done) | (simp; omega) | omega)]; all_goals (first | assumption | go_simp) }; have vr1 : w8.cell? ⟨w.heap.size, 1, none⟩ = some (.slice a1 n1 c1) := by { rw [cellB hb8 _ _ (by first | (simp; done) | (simp; omega) | omega)]; all_goals (first | assumption | go_simp) }; have vr2 : w8.cell? ⟨w.heap.size, 2, none⟩ = some (.bool g) := by { rw [cellB hb8 _ _ (by first | (simp; done) | (simp; omega) | omega)]; all_goals (first | assumption | go_simp) }; have vrg : w8.cell? ⟨w.heap.size + 1, 0, none⟩ = some (.int .i64 gap) := by { rw [cellB hb8 _ _ (by first | (simp; done) | (simp; omega) | omega)]; all_goals (first | assumption | go_simp) }; have vl0 : w.heap.size < w8.heap.size := by { omega }; have vl1 : w.heap.size + 1 < w8.heap.size := by { omega }; have vl2 : w.heap.size + 1 + 1 < w8.heap.size := by { omega }
  have ro8 : w8.cell? ⟨w6.heap.size, 0, none⟩ = some (.func (.func 77) #[] #[.pointer (some ⟨w.heap.size + 1, 0, none⟩)]) := by rw [cellB hb8 _ _ lo]; exact ro
  have ra8 : w8.cell? ⟨w6.heap.size + 1, 0, none⟩ = some (.func (.func 78) #[] #[.pointer (some ⟨w.heap.size + 1, 0, none⟩)]) := by rw [cellB hb8 _ _ la]; exact ra
  have lo8 : w6.heap.size < w8.heap.size := by omega
  have la8 : w6.heap.size + 1 < w8.heap.size := by omega
  have HB8 := Lib.hid (HB7.out.trans (hb8.mono HB7.out.size))
  clear hb8 u0 uf0 u1 uf1 u2 uf2 u3 uf3 ur0 ur1 ur2 urg ul0 ul1 ul2 ro ra lo la HB7 HAT1
  go_wp2_with fail
  refine (HAT2.out _ _ _ HB8.out vr0 vr1 vr2 ro8 ra8 vrg vl0 lo8 la8 vl1).mono ?_
  rintro e9 w9 ⟨rfl, hb9⟩
  have hz9 := hb9.size
  have u0 : w9.cell? ⟨w.heap.size + 1 + 1, 0, none⟩ = some (.int .i64 0) := by { rw [cellB hb9 _ _ (by first | (simp; done) | (simp; omega) | omega)]; all_goals (first | assumption | go_simp) }; have u1 : w9.cell? ⟨w.heap.size + 1 + 1, 1, none⟩ = some (.int .i64 0) := by { rw [cellB hb9 _ _ (by first | (simp; done) | (simp; omega) | omega)]; all_goals (first | assumption | go_simp) }; have u2 : w9.cell? ⟨w.heap.size + 1 + 1, 2, none⟩ = some (.int .i64 0) := by { rw [cellB hb9 _ _ (by first | (simp; done) | (simp; omega) | omega)]; all_goals (first | assumption | go_simp) }; have u3 : w9.cell? ⟨w.heap.size + 1 + 1, 3, none⟩ = some (.int .i64 0) := by { rw [cellB hb9 _ _ (by first | (simp; done) | (simp; omega) | omega)]; all_goals (first | assumption | go_simp) }; have uf0 : w9.frozen? ⟨w.heap.size + 1 + 1, 0, none⟩ = false := by { rw [frozenB hb9 _ _ (by first | (simp; done) | (simp; omega) | omega)]; all_goals (first | assumption | go_simp) }; have uf1 : w9.frozen? ⟨w.heap.size + 1 + 1, 1, none⟩ = false := by { rw [frozenB hb9 _ _ (by first | (simp; done) | (simp; omega) | omega)]; all_goals (first | assumption | go_simp) }; have uf2 : w9.frozen? ⟨w.heap.size + 1 + 1, 2, none⟩ = false := by { rw [frozenB hb9 _ _ (by first | (simp; done) | (simp; omega) | omega)]; all_goals (first | assumption | go_simp) }; have uf3 : w9.frozen? ⟨w.heap.size + 1 + 1, 3, none⟩ = false := by { rw [frozenB hb9 _ _ (by first | (simp; done) | (simp; omega) | omega)]; all_goals (first | assumption | go_simp) }; have ul2 : w.heap.size + 1 + 1 < w9.heap.size := by { omega }
  have HB9 := Lib.hid (HB8.out.trans (hb9.mono HB8.out.size))
  clear hb9 v0 vf0 v1 vf1 v2 vf2 v3 vf3 vr0 vr1 vr2 vrg vl0 vl1 vl2 ro8 ra8 lo8 la8 HB8 HAT2
  go_wp2_with fail
  refine (HSP.out w9).mono ?_
  rintro e10 w10 ⟨rfl, hb10⟩
  have hz10 := hb10.size
  have v0 : w10.cell? ⟨w.heap.size + 1 + 1, 0, none⟩ = some (.int .i64 0) := by { rw [cellB hb10 _ _ (by first | (simp; done) | (simp; omega) | omega)]; all_goals (first | assumption | go_simp) }; have v1 : w10.cell? ⟨w.heap.size + 1 + 1, 1, none⟩ = some (.int .i64 0) := by { rw [cellB hb10 _ _ (by first | (simp; done) | (simp; omega) | omega)]; all_goals (first | assumption | go_simp) }; have v2 : w10.cell? ⟨w.heap.size + 1 + 1, 2, none⟩ = some (.int .i64 0) := by { rw [cellB hb10 _ _ (by first | (simp; done) | (simp; omega) | omega)]; all_goals (first | assumption | go_simp) }; have v3 : w10.cell? ⟨w.heap.size + 1 + 1, 3, none⟩ = some (.int .i64 0) := by { rw [cellB hb10 _ _ (by first | (simp; done) | (simp; omega) | omega)]; all_goals (first | assumption | go_simp) }; have vf0 : w10.frozen? ⟨w.heap.size + 1 + 1, 0, none⟩ = false := by { rw [frozenB hb10 _ _ (by first | (simp; done) | (simp; omega) | omega)]; all_goals (first | assumption | go_simp) }; have vf1 : w10.frozen? ⟨w.heap.size + 1 + 1, 1, none⟩ = false := by { rw [frozenB hb10 _ _ (by first | (simp; done) | (simp; omega) | omega)]; all_goals (first | assumption | go_simp) }; have vf2 : w10.frozen? ⟨w.heap.size + 1 + 1, 2, none⟩ = false := by { rw [frozenB hb10 _ _ (by first | (simp; done) | (simp; omega) | omega)]; all_goals (first | assumption | go_simp) }; have vf3 : w10.frozen? ⟨w.heap.size + 1 + 1, 3, none⟩ = false := by { rw [frozenB hb10 _ _ (by first | (simp; done) | (simp; omega) | omega)]; all_goals (first | assumption | go_simp) }; have vl2 : w.heap.size + 1 + 1 < w10.heap.size := by { omega }
  have HB10 := Lib.hid (HB9.out.trans (hb10.mono HB9.out.size))
  clear hb10 u0 uf0 u1 uf1 u2 uf2 u3 uf3 HB9
  cases S
  · go_wp2
    refine bodyPost_ret (v := .tuple #[.agg #[.int .i64 0, .int .i64 0, .int .i64 0, .int .i64 0], .int .i64 8]) (by simp [results, Try.results33, go_sem, v0, v1, v2, v3]) rfl ⟨rfl, ?_⟩
    have := HB10.out
    (repeat' (first | (with_reducible exact Below.refl _ _) | (with_reducible assumption) | (with_reducible refine Below.drewN ?_ _) | (with_reducible refine Below.alloc ?_ ?_ _) | (with_reducible refine Below.drew ?_) | (with_reducible refine Below.setCell ?_ ?_ _) | (with_reducible refine Below.step (by assumption) ?_ ?_) | (with_reducible exact And.left (by assumption)) | go_size))
  · go_wp2
    refine bodyPost_ret (v := .tuple #[.agg #[.int .i64 p, .int .i64 q, .int .i64 p2, .int .i64 q2], .int .i64 0]) (by simp [results, Try.results33, go_sem, v0, v1, v2, v3]) rfl ⟨rfl, ?_⟩
    have := HB10.out
    (repeat' (first | (with_reducible exact Below.refl _ _) | (with_reducible assumption) | (with_reducible refine Below.drewN ?_ _) | (with_reducible refine Below.alloc ?_ ?_ _) | (with_reducible refine Below.drew ?_) | (with_reducible refine Below.setCell ?_ ?_ _) | (with_reducible refine Below.step (by assumption) ?_ ?_) | (with_reducible exact And.left (by assumption)) | go_size))
end Go.Proofs.Ytbjgklifmillgaa
