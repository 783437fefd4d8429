import Derived.Test.YtppkckbnjnenfaaGreatMRoundTr
/- The error of currents: the program and the reference. -/
namespace Go.Proofs.YtppkckbnjnenfaaGreat
open Go.RowKit
set_option linter.unusedVariables false
set_option linter.unusedSimpArgs false
theorem natz (n : Nat) : (((n : Nat) : Int) == 0) = decide (n = 0) := by rw [Bool.eq_iff_iff]; simp
theorem curE_int (m : Mac) (s : Nat) : curE m s = firstErr [unl ((s : Int) != 0) 21, unl (((dirS m s 0 : Nat) : Int) == 0 || ((dirS m s 1 : Nat) : Int) == 0) 13, unl (decide (max ((dirS m s 0 : Nat) : Int) ((dirS m s 1 : Nat) : Int) ≤ 1)) 23] := by
 unfold curE
 rw [natz, natz]
 have e1 : ((s : Int) != 0) = decide (s ≠ 0) := by rw [Bool.eq_iff_iff]; simp
 have e2 : decide (max ((dirS m s 0 : Nat) : Int) ((dirS m s 1 : Nat) : Int) ≤ 1) = (decide (dirS m s 0 ≤ 1) && decide (dirS m s 1 ≤ 1)) := by
  rw [Bool.eq_iff_iff, Bool.and_eq_true, decide_eq_true_eq, decide_eq_true_eq, decide_eq_true_eq]; omega
 rw [e1, e2]
set_option maxHeartbeats 2000000 in
set_option maxRecDepth 100000 in
theorem currentsErr_any (m : Mac) (l : Lim) (s : Nat) (ab ag : Option Addr) (nb cb ng cg : Nat) (w : World) (hm : MacV m) (hb : BrR w ab nb m.br) (hs : s < 2 ^ nb) :
    Calls Tryz.prog 141 #[.agg #[.slice ab nb cb, .int .i64 m.st, .slice ag ng cg, .int .i64 l.volt, .int .i64 l.lo, .int .i64 l.hi, .int .i64 l.circ, .int .i64 l.brk, .int .i64 l.ret], .int .i64 (s : Int)] w fun e' w' => e' = .returned (.int .i64 (curE m s)) ∧ Below w.heap.size w w' := by
 have HD := Lib.hid (fun (W : World) (hbw : Below w.heap.size w W) => direct_any m l s ab ag nb cb ng cg W hm (hb.below hbw) hs)
 have HU := Lib.hid (fun (b : Bool) (e : Int) w' => t_unless_any b e w')
 obtain ⟨vo, lo, hi, ci, br, re⟩ := l
 simp only at HD ⊢
 obtain ⟨V, hV⟩ : ∃ V, V = curE m s := ⟨_, rfl⟩
 have hV2 := hV.trans (curE_int m s)
 rw [← hV]
 obtain ⟨st, hst⟩ : ∃ x, x = m.st := ⟨_, rfl⟩
 rw [← hst] at HD ⊢
 generalize dirS m s 0 = N0 at *
 generalize dirS m s 1 = N1 at *
 have HV := Lib.hid hV2
 clear hV hV2 hb hm hs hst
 go_enter Tryz.func141, Tryz.ntmps141
 go_wp2_with fail
 refine (HD.out _ (by (first|exact bwg|go_size))).mono ?_
 rintro e5 w5 ⟨rfl, hb5⟩
 have HB5 := Lib.hid (show Below w.heap.size w w5 by (first|exact bwg|go_size))
 clear hb5 HD
 obtain ⟨w8, hW⟩ : ∃ w8, w8 = w5.alloc (Obj.cells #[.int .i64 (N0 : Int), .int .i64 (N1 : Int)] 137) := ⟨_, rfl⟩
 have hb8 : Below w5.heap.size w5 w8 := by rw [hW]; (first|exact bwg|go_size)
 have k8 : w8.heap[w5.heap.size]? = some (.cells #[.int .i64 (N0 : Int), .int .i64 (N1 : Int)] 137) := by rw [hW]; exact heap_alloc_new _ _
 have HB8 := bwt HB5 hb8
 clear hb8
 go_wp2_with fail
 rw [← hW]
 obtain ⟨X5, hX5⟩ : ∃ X, X = w5.heap.size := ⟨_, rfl⟩
 rw [← hX5] at k8 ⊢
 obtain ⟨c0, c1, l8⟩ := blkc2 k8
 clear hW hX5 k8 HB5
 by_cases hx : (N0 : Int) < (N1 : Int)
 ·have hv := HV.out
  rw [show max (N0 : Int) (N1 : Int) = (N1 : Int) by omega] at hv
  have HV := Lib.hid hv
  clear hv
  cases h0 : ((N0 : Int) == 0)
  ·skip
   go_wp2_with fail
   refine later_of_eq 19 (by kernel_rfl) (by kernel_rfl) ?_; simp only [List.take_succ_cons, List.take_zero, List.drop_succ_cons, List.drop_zero]; repeat go_big_quiet_step (with_reducible exact calls_later_same (HU.out _ _ _))
   refine wpQuiet_nil ?_; intro w9 hb9
   have HB9 := bwt HB8 hb9
   clear hb9 c0 c1
   go_wp2_with fail
   refine (t_first3 _ _ _ _ _ _ _ (by rfl) (by simp)).mono ?_
   rintro e8 wv ⟨rfl, hwv⟩
   have HBv := Lib.hid (HB9.out.trans ((show Below w9.heap.size w9 wv by rw [← hwv]; (first|exact bwg|go_size)).mono HB9.out.size))
   clear hwv
   go_wp2
   go_ret
   exact ⟨ret_int (by rw [HV.out]; first | rfl | (rw [h0]; rfl) | simp [h0]), HBv.out⟩
  ·skip
   go_wp2_with fail
   refine later_of_eq 19 (by kernel_rfl) (by kernel_rfl) ?_; simp only [List.take_succ_cons, List.take_zero, List.drop_succ_cons, List.drop_zero]; repeat go_big_quiet_step (with_reducible exact calls_later_same (HU.out _ _ _))
   refine wpQuiet_nil ?_; intro w9 hb9
   have HB9 := bwt HB8 hb9
   clear hb9 c0 c1
   go_wp2_with fail
   refine (t_first3 _ _ _ _ _ _ _ (by rfl) (by simp)).mono ?_
   rintro e8 wv ⟨rfl, hwv⟩
   have HBv := Lib.hid (HB9.out.trans ((show Below w9.heap.size w9 wv by rw [← hwv]; (first|exact bwg|go_size)).mono HB9.out.size))
   clear hwv
   go_wp2
   go_ret
   exact ⟨ret_int (by rw [HV.out]; first | rfl | (rw [h0]; rfl) | simp [h0]), HBv.out⟩
 ·have hv := HV.out
  rw [show max (N0 : Int) (N1 : Int) = (N0 : Int) by omega] at hv
  have HV := Lib.hid hv
  clear hv
  cases h0 : ((N0 : Int) == 0)
  ·skip
   go_wp2_with fail
   refine later_of_eq 19 (by kernel_rfl) (by kernel_rfl) ?_; simp only [List.take_succ_cons, List.take_zero, List.drop_succ_cons, List.drop_zero]; repeat go_big_quiet_step (with_reducible exact calls_later_same (HU.out _ _ _))
   refine wpQuiet_nil ?_; intro w9 hb9
   have HB9 := bwt HB8 hb9
   clear hb9 c0 c1
   go_wp2_with fail
   refine (t_first3 _ _ _ _ _ _ _ (by rfl) (by simp)).mono ?_
   rintro e8 wv ⟨rfl, hwv⟩
   have HBv := Lib.hid (HB9.out.trans ((show Below w9.heap.size w9 wv by rw [← hwv]; (first|exact bwg|go_size)).mono HB9.out.size))
   clear hwv
   go_wp2
   go_ret
   exact ⟨ret_int (by rw [HV.out]; first | rfl | (rw [h0]; rfl) | simp [h0]), HBv.out⟩
  ·skip
   go_wp2_with fail
   refine later_of_eq 19 (by kernel_rfl) (by kernel_rfl) ?_; simp only [List.take_succ_cons, List.take_zero, List.drop_succ_cons, List.drop_zero]; repeat go_big_quiet_step (with_reducible exact calls_later_same (HU.out _ _ _))
   refine wpQuiet_nil ?_; intro w9 hb9
   have HB9 := bwt HB8 hb9
   clear hb9 c0 c1
   go_wp2_with fail
   refine (t_first3 _ _ _ _ _ _ _ (by rfl) (by simp)).mono ?_
   rintro e8 wv ⟨rfl, hwv⟩
   have HBv := Lib.hid (HB9.out.trans ((show Below w9.heap.size w9 wv by rw [← hwv]; (first|exact bwg|go_size)).mono HB9.out.size))
   clear hwv
   go_wp2
   go_ret
   exact ⟨ret_int (by rw [HV.out]; first | rfl | (rw [h0]; rfl) | simp [h0]), HBv.out⟩
theorem curE_cases (m : Mac) (s : Nat) : curE m s = if s = 0 then 21 else if 0 < dirS m s 0 ∧ 0 < dirS m s 1 then 13 else if 1 < dirS m s 0 ∨ 1 < dirS m s 1 then 23 else 0 := by
 unfold curE
 generalize dirS m s 0 = a
 generalize dirS m s 1 = b
 by_cases h : s = 0
 ·simp [h, unl, firstErr]
 ·rw [if_neg h, decide_eq_true (show s ≠ 0 from h)]
  by_cases h1 : 0 < a ∧ 0 < b
  ·rw [if_pos h1, decide_eq_false (show ¬ a = 0 by omega), decide_eq_false (show ¬ b = 0 by omega)]; rfl
  ·have e : (decide (a = 0) || decide (b = 0)) = true := by
     rw [Bool.or_eq_true, decide_eq_true_eq, decide_eq_true_eq]; omega
   rw [if_neg h1, e]
   by_cases h2 : 1 < a ∨ 1 < b
   ·have e2 : (decide (a ≤ 1) && decide (b ≤ 1)) = false := by
      rw [Bool.and_eq_false_iff, decide_eq_false_iff_not, decide_eq_false_iff_not]; omega
    rw [if_pos h2, e2]; rfl
   ·have e2 : (decide (a ≤ 1) && decide (b ≤ 1)) = true := by
      rw [Bool.and_eq_true, decide_eq_true_eq, decide_eq_true_eq]; omega
    rw [if_neg h2, e2]; rfl
/- The voltage of the output and currents, in plain words. -/
def volA (m : Mac) (l : Lim) (k : Nat) : Int := (bAt m.br k).tap * l.volt
def numL (m : Mac) (l : Lim) (load : Int) (L : List Nat) : Int := L.foldl (fun a k => a + volA m l k * (2520 / (bAt m.br k).res)) (-load * 2520)
def denL (m : Mac) (L : List Nat) : Int := L.foldl (fun a k => a + 2520 / (bAt m.br k).res) 0
theorem numL_snoc (m : Mac) (l : Lim) (load : Int) (L : List Nat) (k : Nat) : numL m l load (L ++ [k]) = numL m l load L + volA m l k * (2520 / (bAt m.br k).res) := by unfold numL; rw [List.foldl_append]; rfl
theorem denL_snoc (m : Mac) (L : List Nat) (k : Nat) : denL m (L ++ [k]) = denL m L + 2520 / (bAt m.br k).res := by unfold denL; rw [List.foldl_append]; rfl
def isRes (m : Mac) (k : Nat) : Bool := (bAt m.br k).res == 0
def outT (m : Mac) (l : Lim) (s : Nat) (load : Int) : Int × Int :=
 match (cloU s 6).find? (isRes m) with
 | some k => (volA m l k, 1)
 | none => low (numL m l load (cloU s 6)) (denL m (cloU s 6))
theorem div_res {r : Int} (h0 : 1 ≤ r) (h1 : r ≤ 10) : 252 ≤ 2520 / r ∧ 2520 / r ≤ 2520 := by
 have : r = 1 ∨ r = 2 ∨ r = 3 ∨ r = 4 ∨ r = 5 ∨ r = 6 ∨ r = 7 ∨ r = 8 ∨ r = 9 ∨ r = 10 := by omega
 rcases this with rfl | rfl | rfl | rfl | rfl | rfl | rfl | rfl | rfl | rfl <;> decide
theorem vol_bd {m : Mac} {l : Lim} {k : Nat} (hm : MacV m) (hl : 0 ≤ l.volt ∧ l.volt ≤ 1000) (hk : k < m.br.length) : 0 ≤ volA m l k ∧ volA m l k ≤ 1000 := by
 obtain ⟨⟨h0, h1⟩, _⟩ := hm.br k hk
 unfold volA
 obtain h | h : (bAt m.br k).tap = 0 ∨ (bAt m.br k).tap = 1 := by omega
 ·rw [h, Int.zero_mul]; omega
 ·rw [h, Int.one_mul]; exact hl
theorem snoc_ind {α : Type} {P : List α → Prop} (h0 : P []) (h1 : ∀ L k, P L → P (L ++ [k])) (L : List α) : P L := by
 have key : ∀ M : List α, P M.reverse := by
  intro M
  induction M with
  | nil => exact h0
  | cons x r ih => rw [List.reverse_cons]; exact h1 _ _ ih
 have := key L.reverse
 rwa [List.reverse_reverse] at this
theorem sums_bd {m : Mac} {l : Lim} {load : Int} (hm : MacV m) (hl : 0 ≤ l.volt ∧ l.volt ≤ 1000) (hd : -1000 ≤ load ∧ load ≤ 1000) : ∀ L : List Nat, (∀ k ∈ L, k < m.br.length ∧ (bAt m.br k).res ≠ 0) →
    (-2520000 ≤ numL m l load L ∧ numL m l load L ≤ 2520000 + L.length * 2520000) ∧ (L.length * 252 ≤ denL m L ∧ denL m L ≤ L.length * 2520) := by
 refine snoc_ind ?_ ?_
 ·intro _; unfold numL denL; simp only [List.foldl_nil, List.length_nil]; omega
 ·intro L k ih h
  obtain ⟨⟨a1, a2⟩, b1, b2⟩ := ih (fun j hj => h j (List.mem_append_left _ hj))
  obtain ⟨hk, hr⟩ := h k (by simp)
  obtain ⟨_, r0, r1⟩ := hm.br k hk
  obtain ⟨v0, v1⟩ := vol_bd hm hl hk
  obtain ⟨d0, d1⟩ := div_res (r := (bAt m.br k).res) (by omega) r1
  rw [numL_snoc, denL_snoc, List.length_append, List.length_singleton]
  generalize (bAt m.br k).res = r at *
  generalize volA m l k = v at *
  generalize 2520 / r = q at *
  have p0 : 0 ≤ v * q := Int.mul_nonneg v0 (by omega)
  have p1 : v * q ≤ 1000 * 2520 := Int.mul_le_mul v1 d1 (by omega) (by decide)
  push_cast
  omega
/- Quotients by their numerators and denominators, and how many digits these have. No program in sight. -/
theorem rat_num {x y : Int} (hy : 0 < y) : (Rat.divInt x y).num = x / (Int.gcd x y : Nat) := by
 rw [Rat.num_divInt, Int.sign_eq_one_of_pos hy, Int.one_mul, Int.gcd_comm]
theorem rat_den {x y : Int} (hy : 0 < y) : ((Rat.divInt x y).den : Int) = y / (Int.gcd x y : Nat) := by
 rw [Rat.den_divInt, if_neg (by omega), Int.gcd_comm, Int.natCast_ediv, Int.natAbs_of_nonneg (by omega)]
theorem gcd_le_y {x y : Int} (hy : 0 < y) : 0 < (Int.gcd x y : Int) ∧ (Int.gcd x y : Int) ≤ y := by
 have h1 : Int.gcd x y ∣ y.natAbs := Int.gcd_dvd_natAbs_right x y
 have h2 : Int.gcd x y ≠ 0 := by intro h; rw [Int.gcd_eq_zero_iff] at h; omega
 have h3 := Nat.le_of_dvd (by omega) h1
 omega
/- The currents of the contacts, in plain words. -/
def frR (q : Rat) : Int × Int := (q.num, (q.den : Int))
theorem low_rat {a b : Int} (hb : 0 < b) : low a b = frR (Rat.divInt a b) := by
 unfold low frR
 rw [rat_num hb, rat_den hb]
 have hg : (Int.gcd a b : Int) ∣ a := Int.gcd_dvd_left ..
 unfold gc
 obtain ⟨z, hz⟩ := hg
 have h0 := gcd_le_y (x := a) hb
 generalize (Int.gcd a b : Int) = g at *
 subst hz
 rw [Int.mul_tdiv_cancel_left _ (by omega), Int.mul_ediv_cancel_left _ (by omega)]
theorem low_congr {a b c d : Int} (hb : 0 < b) (hd : 0 < d) (h : a * d = c * b) : low a b = low c d := by
 rw [low_rat hb, low_rat hd, (Rat.divInt_eq_divInt_iff (by omega) (by omega)).2 h]
theorem low_props {a b : Int} (hb : 0 < b) : (low a b).1 * b = a * (low a b).2 ∧ 0 < (low a b).2 ∧ (low a b).2 ≤ b ∧ (low a b).1.natAbs ≤ a.natAbs := by
 have hg : gc a b ∣ a := by unfold gc; exact Int.gcd_dvd_left ..
 have hg' : gc a b ∣ b := by unfold gc; exact Int.gcd_dvd_right ..
 have h1 := gc_pos (a := a) hb
 unfold low
 generalize gc a b = g at *
 obtain ⟨z, rfl⟩ := hg
 obtain ⟨y, rfl⟩ := hg'
 simp only [Int.mul_tdiv_cancel_left _ (show g ≠ 0 by omega), Int.mul_ediv_cancel_left _ (show g ≠ 0 by omega)]
 have hy : 0 < y := by
  rcases Int.lt_or_le 0 y with h | h
  ·exact h
  ·have := Int.mul_nonneg (show (0 : Int) ≤ g by omega) (show 0 ≤ -y by omega)
   rw [Int.mul_neg] at this
   omega
 refine ⟨by rw [← Int.mul_assoc, Int.mul_comm z g], hy, ?_, ?_⟩
 ·have := Int.mul_le_mul_of_nonneg_right h1 (show 0 ≤ y by omega)
  omega
 ·rw [Int.natAbs_mul]
  exact Nat.le_mul_of_pos_left _ (by omega)
theorem low_sub {A B C E : Int} (hB : 0 < B) (hE : 0 < E) : low ((low A B).1 * (low C E).2 - (low C E).1 * (low A B).2) ((low A B).2 * (low C E).2) = low (A * E - C * B) (B * E) := by
 obtain ⟨e1, p1, _, _⟩ := low_props (a := A) hB
 obtain ⟨e2, p2, _, _⟩ := low_props (a := C) hE
 refine low_congr (Int.mul_pos p1 p2) (Int.mul_pos hB hE) ?_
 generalize (low A B).1 = x at *
 generalize (low A B).2 = y at *
 generalize (low C E).1 = z at *
 generalize (low C E).2 = t at *
 grind
theorem low_one' (v : Int) : low v 1 = (v, 1) := by
 unfold low gc
 have : Int.gcd v 1 = 1 := by simp
 rw [this]
 simp
def ovr (m : Mac) (l : Lim) (N D : Int) (k : Nat) : Int := volA m l k * D - N
def curA (m : Mac) (l : Lim) (N D : Int) (k : Nat) : Int × Int := low (ovr m l N D k) (D * (bAt m.br k).res)
def rstZ (m : Mac) (l : Lim) (load N D : Int) (L : List Nat) : Int := L.foldl (fun a k => if isRes m k then a else a - ovr m l N D k * (2520 / (bAt m.br k).res)) (load * (2520 * D))
def rstA (m : Mac) (l : Lim) (load N D : Int) (L : List Nat) : Int × Int := low (rstZ m l load N D L) (2520 * D)
def dirD (m : Mac) (L : List Nat) : Int := L.foldl (fun d k => if isRes m k then (k : Int) else d) (-1)
def curL (m : Mac) (l : Lim) (N D : Int) (n : Nat) (L : List Nat) : List (Int × Int) := (List.range n).map fun k => if k ∈ L ∧ isRes m k = false then curA m l N D k else (0, 1)
theorem rstZ_snoc (m : Mac) (l : Lim) (load N D : Int) (L : List Nat) (k : Nat) : rstZ m l load N D (L ++ [k]) = if isRes m k then rstZ m l load N D L else rstZ m l load N D L - ovr m l N D k * (2520 / (bAt m.br k).res) := by
 unfold rstZ; rw [List.foldl_append]; rfl
theorem rstA_nil {m : Mac} {l : Lim} {load N D : Int} (hD : 0 < D) : rstA m l load N D [] = (load, 1) := by
 unfold rstA rstZ
 rw [List.foldl_nil, ← low_one' load]
 exact low_congr (by omega) (by decide) (by rw [Int.mul_one])
theorem dirD_snoc (m : Mac) (L : List Nat) (k : Nat) : dirD m (L ++ [k]) = if isRes m k then (k : Int) else dirD m L := by unfold dirD; rw [List.foldl_append]; rfl
theorem dirD_lt {m : Mac} {s n : Nat} (hL : ∀ k ∈ cloU s 6, k < n) (h : 0 ≤ dirD m (cloU s 6)) : dirD m (cloU s 6) < (n : Int) := by
 have key : ∀ L : List Nat, (∀ k ∈ L, k < n) → dirD m L < (n : Int) ∨ dirD m L = -1 := by
  refine snoc_ind (fun _ => .inr rfl) (fun L k ih hL => ?_)
  rw [dirD_snoc]
  have hk := hL k (by simp)
  split
  ·left; omega
  ·exact ih (fun j hj => hL j (List.mem_append_left _ hj))
 rcases key _ hL with h1 | h1
 ·exact h1
 ·omega
theorem curL_len (m : Mac) (l : Lim) (N D : Int) (n : Nat) (L : List Nat) : (curL m l N D n L).length = n := by unfold curL; simp
theorem curL_nil (m : Mac) (l : Lim) (N D : Int) (n : Nat) : curL m l N D n [] = List.replicate n (0, 1) := by
 unfold curL
 apply List.ext_getElem (by simp)
 intro i h1 h2
 simp
theorem curL_res {m : Mac} (l : Lim) (N D : Int) (n : Nat) (L : List Nat) {k : Nat} (h : isRes m k = true) : curL m l N D n (L ++ [k]) = curL m l N D n L := by
 unfold curL
 refine List.map_congr_left fun j _ => ?_
 by_cases hj : j = k
 ·subst hj; simp [h]
 ·simp [hj]
theorem curL_set {m : Mac} (l : Lim) (N D : Int) (n : Nat) (L : List Nat) {k : Nat} (h : isRes m k = false) : curL m l N D n (L ++ [k]) = (curL m l N D n L).set k (curA m l N D k) := by
 apply List.ext_getElem (by simp [curL_len])
 intro i h1 h2
 rw [List.getElem_set]
 unfold curL
 simp only [List.getElem_map, List.getElem_range]
 by_cases hj : k = i
 ·subst hj; simp [h]
 ·simp [hj, Ne.symm hj]
theorem cur_over {m : Mac} {l : Lim} {N D : Int} {k : Nat} (hD : 0 < D) (hr : 0 < (bAt m.br k).res) :
    low (low (volA m l k * D - N * 1) (1 * D)).1 ((low (volA m l k * D - N * 1) (1 * D)).2 * (bAt m.br k).res) = curA m l N D k := by
 rw [Int.mul_one, Int.one_mul]
 obtain ⟨e, p, _, _⟩ := low_props (a := volA m l k * D - N) hD
 unfold curA ovr
 refine low_congr (Int.mul_pos p hr) (Int.mul_pos hD hr) ?_
 rw [← Int.mul_assoc, e, Int.mul_assoc]
theorem cur_rest {m : Mac} {l : Lim} {load N D : Int} {L : List Nat} {k : Nat} (hD : 0 < D) (hr : 1 ≤ (bAt m.br k).res) (hr1 : (bAt m.br k).res ≤ 10) (hk : isRes m k = false) :
    low ((rstA m l load N D L).1 * (curA m l N D k).2 - (curA m l N D k).1 * (rstA m l load N D L).2) ((rstA m l load N D L).2 * (curA m l N D k).2) = rstA m l load N D (L ++ [k]) := by
 unfold rstA curA
 have hDr : 0 < D * (bAt m.br k).res := Int.mul_pos hD (by omega)
 rw [low_sub (by omega) hDr, rstZ_snoc, if_neg (by rw [hk]; decide)]
 have e : 2520 = 2520 / (bAt m.br k).res * (bAt m.br k).res := by
  have : (bAt m.br k).res = 1 ∨ (bAt m.br k).res = 2 ∨ (bAt m.br k).res = 3 ∨ (bAt m.br k).res = 4 ∨ (bAt m.br k).res = 5 ∨ (bAt m.br k).res = 6 ∨ (bAt m.br k).res = 7 ∨ (bAt m.br k).res = 8 ∨ (bAt m.br k).res = 9 ∨ (bAt m.br k).res = 10 := by omega
  rcases this with h | h | h | h | h | h | h | h | h | h <;> rw [h] <;> decide
 refine low_congr (Int.mul_pos (by omega) hDr) (by omega) ?_
 generalize 2520 / (bAt m.br k).res = q at *
 generalize (bAt m.br k).res = r at *
 generalize rstZ m l load N D L = Z at *
 generalize ovr m l N D k = y at *
 have e2 : 2520 * D = q * r * D := by rw [← e]
 grind
theorem mulB {a b : Int} {A B : Nat} (ha : a.natAbs ≤ A) (hb : b.natAbs ≤ B) : (a * b).natAbs ≤ A * B := by rw [Int.natAbs_mul]; exact Nat.mul_le_mul ha hb
def VoB (N D : Int) : Prop := 0 < D ∧ D ≤ 15120 ∧ N.natAbs ≤ 20000 * D.natAbs
theorem outT_bd {m : Mac} {l : Lim} {load : Int} {s : Nat} (hm : MacV m) (hl : 0 ≤ l.volt ∧ l.volt ≤ 1000) (hd : -1000 ≤ load ∧ load ≤ 1000) (hlt : ∀ k ∈ cloU s 6, k < m.br.length) (hne : 0 < (cloU s 6).length) : VoB (outT m l s load).1 (outT m l s load).2 := by
 unfold outT
 split
 ·rename_i k hk
  have hk2 := List.mem_of_find?_eq_some hk
  obtain ⟨v0, v1⟩ := vol_bd hm hl (hlt k hk2)
  refine ⟨show (0 : Int) < 1 by decide, show (1 : Int) ≤ 15120 by decide, ?_⟩
  simp only
  omega
 ·rename_i hk
  have hno := List.find?_eq_none.1 hk
  obtain ⟨⟨a0, a1⟩, b0, b1⟩ := sums_bd hm hl hd (cloU s 6) (fun k hk => ⟨hlt k hk, by
   have := hno k hk
   unfold isRes at this
   simpa using this⟩)
  have hlen := cloU_len s 6
  generalize numL m l load (cloU s 6) = A at *
  generalize denL m (cloU s 6) = B at *
  obtain ⟨e, p, q, r⟩ := low_props (a := A) (b := B) (by omega)
  generalize (low A B).1 = N at *
  generalize (low A B).2 = D at *
  refine ⟨p, by omega, ?_⟩
  have hA : A.natAbs ≤ 20000 * B.natAbs := by omega
  have h1 : N.natAbs * B.natAbs = A.natAbs * D.natAbs := by rw [← Int.natAbs_mul, e, Int.natAbs_mul]
  have h2 : N.natAbs * B.natAbs ≤ 20000 * D.natAbs * B.natAbs := by
   rw [h1]
   calc A.natAbs * D.natAbs ≤ 20000 * B.natAbs * D.natAbs := Nat.mul_le_mul_right _ hA
    _ = 20000 * D.natAbs * B.natAbs := by rw [Nat.mul_assoc, Nat.mul_comm B.natAbs, ← Nat.mul_assoc]
  exact Nat.le_of_mul_le_mul_right h2 (by omega)
theorem ovr_bd {m : Mac} {l : Lim} {N D : Int} {k : Nat} (hm : MacV m) (hl : 0 ≤ l.volt ∧ l.volt ≤ 1000) (hk : k < m.br.length) (h : VoB N D) : (ovr m l N D k).natAbs ≤ 21000 * D.natAbs ∧ (0 ≤ volA m l k * D ∧ volA m l k * D ≤ 15120000) := by
 obtain ⟨d0, d1, hn⟩ := h
 obtain ⟨v0, v1⟩ := vol_bd hm hl hk
 unfold ovr
 generalize volA m l k = v at *
 have h1 : (v * D).natAbs ≤ 1000 * D.natAbs := by rw [Int.natAbs_mul]; exact Nat.mul_le_mul_right _ (by omega)
 have h2 := Int.mul_nonneg v0 (Int.le_of_lt d0)
 generalize v * D = x at *
 omega
theorem cur_bd {m : Mac} {l : Lim} {N D : Int} {k : Nat} (hm : MacV m) (hl : 0 ≤ l.volt ∧ l.volt ≤ 1000) (hk : k < m.br.length) (h : VoB N D) (hr : 1 ≤ (bAt m.br k).res) (hr1 : (bAt m.br k).res ≤ 10) :
    (curA m l N D k).1.natAbs ≤ 317520000 ∧ 0 < (curA m l N D k).2 ∧ (curA m l N D k).2 ≤ 151200 := by
 obtain ⟨o, _⟩ := ovr_bd hm hl hk h
 obtain ⟨d0, d1, _⟩ := h
 have hD : D * (bAt m.br k).res ≤ 15120 * 10 := Int.mul_le_mul d1 hr1 (by omega) (by decide)
 obtain ⟨_, p, q, r⟩ := low_props (a := ovr m l N D k) (b := D * (bAt m.br k).res) (Int.mul_pos d0 (by omega))
 unfold curA
 omega
theorem rst_bd {m : Mac} {l : Lim} {load N D : Int} (hm : MacV m) (hl : 0 ≤ l.volt ∧ l.volt ≤ 1000) (hd : -1000 ≤ load ∧ load ≤ 1000) (h : VoB N D) : ∀ L : List Nat, (∀ k ∈ L, k < m.br.length) → (rstZ m l load N D L).natAbs ≤ (1000 + 21000 * L.length) * (2520 * D.natAbs) := by
 refine snoc_ind ?_ ?_
 ·intro _
  unfold rstZ
  simp only [List.foldl_nil, List.length_nil]
  rw [Int.natAbs_mul, Int.natAbs_mul]
  exact Nat.mul_le_mul_right _ (by omega)
 ·intro L k ih hL
  have ih := ih (fun j hj => hL j (List.mem_append_left _ hj))
  have hk := hL k (by simp)
  rw [rstZ_snoc, List.length_append, List.length_singleton]
  have e : (1000 + 21000 * (L.length + 1)) * (2520 * D.natAbs) = (1000 + 21000 * L.length) * (2520 * D.natAbs) + 21000 * (2520 * D.natAbs) := by rw [← Nat.add_mul, show 1000 + 21000 * (L.length + 1) = 1000 + 21000 * L.length + 21000 by omega]
  rw [e]
  split
  ·omega
  ·rename_i hr
   have hr' : (bAt m.br k).res ≠ 0 := by unfold isRes at hr; simpa using hr
   obtain ⟨_, r0, r1⟩ := hm.br k hk
   obtain ⟨q0, q1⟩ := div_res (r := (bAt m.br k).res) (by omega) r1
   obtain ⟨o, _⟩ := ovr_bd hm hl hk h
   have h2 := mulB o (show (2520 / (bAt m.br k).res).natAbs ≤ 2520 by omega)
   have e2 : 21000 * D.natAbs * 2520 = 21000 * (2520 * D.natAbs) := by rw [Nat.mul_assoc, Nat.mul_comm D.natAbs]
   omega
theorem rstA_bd {m : Mac} {l : Lim} {load N D : Int} (hm : MacV m) (hl : 0 ≤ l.volt ∧ l.volt ≤ 1000) (hd : -1000 ≤ load ∧ load ≤ 1000) (h : VoB N D) (L : List Nat) (hL : ∀ k ∈ L, k < m.br.length) (h6 : L.length ≤ 6) :
    (rstA m l load N D L).1.natAbs ≤ 4839004800000 ∧ 0 < (rstA m l load N D L).2 ∧ (rstA m l load N D L).2 ≤ 38102400 := by
 have hb := rst_bd (load := load) hm hl hd h L hL
 obtain ⟨d0, d1, _⟩ := h
 obtain ⟨_, p, q, r⟩ := low_props (a := rstZ m l load N D L) (b := 2520 * D) (by omega)
 have h2 : (1000 + 21000 * L.length) * (2520 * D.natAbs) ≤ 127000 * 38102400 := Nat.mul_le_mul (by omega) (by omega)
 unfold rstA
 omega
theorem cur_safe {a b c d : Int} (ha : a.natAbs ≤ 4839004800000) (hb : 0 < b ∧ b ≤ 38102400) (hc : c.natAbs ≤ 317520000) (hd : 0 < d ∧ d ≤ 151200) :
    (-4000000000000000000 ≤ a * d ∧ a * d ≤ 4000000000000000000) ∧ (-4000000000000000000 ≤ c * b ∧ c * b ≤ 4000000000000000000) ∧ 0 < b * d ∧ b * d ≤ 9000000000000000000 := by
 have h1 := mulB ha (show d.natAbs ≤ 151200 by omega)
 have h2 := mulB hc (show b.natAbs ≤ 38102400 by omega)
 have h3 := mulB (show b.natAbs ≤ 38102400 by omega) (show d.natAbs ≤ 151200 by omega)
 have h4 := Int.mul_pos hb.1 hd.1
 generalize a * d = x at *
 generalize c * b = y at *
 generalize b * d = z at *
 omega
theorem cloU_len' (s i : Nat) (h : i ≤ 6) : (cloU s i).length ≤ 6 := Nat.le_trans (cloU_len s i) h
def curT (m : Mac) (l : Lim) (s : Nat) (load : Int) : List (Int × Int) :=
 if dirD m (cloU s 6) < 0 then curL m l (outT m l s load).1 (outT m l s load).2 m.br.length (cloU s 6)
 else (curL m l (outT m l s load).1 (outT m l s load).2 m.br.length (cloU s 6)).set (dirD m (cloU s 6)).toNat (rstA m l load (outT m l s load).1 (outT m l s load).2 (cloU s 6))
end Go.Proofs.YtppkckbnjnenfaaGreat
