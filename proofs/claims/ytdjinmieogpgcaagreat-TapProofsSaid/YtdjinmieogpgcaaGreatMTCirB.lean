import Derived.Test.YtdjinmieogpgcaaGreatTRefC
/- The circulating current has small parts, in plain words. -/
namespace Go.Proofs.YtdjinmieogpgcaaGreat
set_option linter.unusedVariables false
def ofT (m : Mac) (t : Int) (k : Nat) : Bool := decide ((bAt m.br k).tap = t) && !isRes m k
def pqT (m : Mac) (t : Int) (L : List Nat) : Int × Int := L.foldl (fun x k => if ofT m t k = true then (x.1 * (bAt m.br k).res + x.2, x.2 * (bAt m.br k).res) else x) (0, 1)
def aT (m : Mac) (t : Int) (L : List Nat) : Int := L.foldl (fun a k => if ofT m t k = true then a + 2520 / (bAt m.br k).res else a) 0
def cT (m : Mac) (t : Int) (L : List Nat) : Nat := L.foldl (fun a k => if ofT m t k = true then a + 1 else a) 0
theorem pqT_snoc (m : Mac) (t : Int) (L : List Nat) (k : Nat) : pqT m t (L ++ [k]) = if ofT m t k = true then ((pqT m t L).1 * (bAt m.br k).res + (pqT m t L).2, (pqT m t L).2 * (bAt m.br k).res) else pqT m t L := by unfold pqT; rw [List.foldl_append]; rfl
theorem aT_snoc (m : Mac) (t : Int) (L : List Nat) (k : Nat) : aT m t (L ++ [k]) = if ofT m t k = true then aT m t L + 2520 / (bAt m.br k).res else aT m t L := by unfold aT; rw [List.foldl_append]; rfl
theorem cT_snoc (m : Mac) (t : Int) (L : List Nat) (k : Nat) : cT m t (L ++ [k]) = if ofT m t k = true then cT m t L + 1 else cT m t L := by unfold cT; rw [List.foldl_append]; rfl
def bdT : Nat → Int
 | 0 => 0
 | c + 1 => bdT c * 10 + 10 ^ c
theorem bdT_nonneg : ∀ c, 0 ≤ bdT c
 | 0 => by decide
 | c + 1 => by
  have := bdT_nonneg c
  have h2 : (0 : Int) ≤ 10 ^ c := Int.le_of_lt (Int.pow_pos (by decide))
  show 0 ≤ bdT c * 10 + 10 ^ c
  omega
theorem pqT_eq {m : Mac} (hm : MacV m) (t : Int) : ∀ L : List Nat, (∀ k ∈ L, k < m.br.length) →
    (pqT m t L).1 * 2520 = (pqT m t L).2 * aT m t L ∧ 0 < (pqT m t L).2 ∧ (pqT m t L).2 ≤ 10 ^ cT m t L ∧ 0 ≤ (pqT m t L).1 ∧ (pqT m t L).1 ≤ bdT (cT m t L) ∧ 0 ≤ aT m t L := by
 refine snoc_ind ?_ ?_
 ·intro _
  exact ⟨rfl, Int.zero_lt_one, Int.le_refl 1, Int.le_refl 0, Int.le_refl 0, Int.le_refl 0⟩
 ·intro L k ih hL
  obtain ⟨e1, e2, e3, e4, e5, e6⟩ := ih (fun j hj => hL j (List.mem_append_left _ hj))
  rw [pqT_snoc, aT_snoc, cT_snoc]
  by_cases h : ofT m t k = true
  ·simp only [if_pos h]
   have hr : (bAt m.br k).res ≠ 0 := by
    unfold ofT isRes at h
    simp only [Bool.and_eq_true, Bool.not_eq_true', beq_eq_false_iff_ne] at h
    exact h.2
   obtain ⟨_, r0, r1⟩ := hm.br k (hL k (by simp))
   have e := res_cases (r := (bAt m.br k).res) (by omega) r1
   obtain ⟨d0, d1⟩ := div_res (r := (bAt m.br k).res) (by omega) r1
   have hb := bdT_nonneg (cT m t L)
   have hp : (0 : Int) < 10 ^ cT m t L := Int.pow_pos (by decide)
   have hsucc : (10 : Int) ^ (cT m t L + 1) = 10 ^ cT m t L * 10 := Int.pow_succ ..
   have hbs : bdT (cT m t L + 1) = bdT (cT m t L) * 10 + 10 ^ cT m t L := rfl
   rw [hsucc, hbs]
   generalize 2520 / (bAt m.br k).res = q at *
   generalize (bAt m.br k).res = r at *
   generalize (pqT m t L).1 = P at *
   generalize (pqT m t L).2 = Q at *
   generalize aT m t L = A at *
   generalize bdT (cT m t L) = B at *
   generalize (10 : Int) ^ cT m t L = T at *
   have p1 : P * r ≤ B * 10 := Int.mul_le_mul e5 r1 r0 hb
   have p2 : Q * r ≤ T * 10 := Int.mul_le_mul e3 r1 r0 (by omega)
   have p3 : 0 ≤ P * r := Int.mul_nonneg e4 r0
   have p4 : 0 < Q * r := Int.mul_pos e2 (by omega)
   exact ⟨by grind, p4, p2, by omega, by omega, by omega⟩
  ·simp only [if_neg h]
   exact ⟨e1, e2, e3, e4, e5, e6⟩
theorem cT_sum (m : Mac) : ∀ L : List Nat, cT m 1 L + cT m 0 L ≤ L.length := by
 refine snoc_ind (Nat.le_refl 0) (fun L k ih => ?_)
 rw [cT_snoc, cT_snoc, List.length_append, List.length_singleton]
 by_cases h1 : ofT m 1 k = true
 ·have h0 : ¬ ofT m 0 k = true := by
    intro h
    unfold ofT at h h1
    simp only [Bool.and_eq_true, decide_eq_true_eq] at h h1
    omega
  rw [if_pos h1, if_neg h0]; omega
 ·rw [if_neg h1]
  split <;> omega
theorem bdT_prod : ∀ c1 < 7, ∀ c0 < 7, c1 + c0 ≤ 6 → 1000 * (bdT c1 * bdT c0) ≤ 90000000 := by decide
theorem tap_ov {m : Mac} {k : Nat} (hm : MacV m) (hk : k < m.br.length) (hr : isRes m k = false) : (ofT m 1 k = true ∧ ofT m 0 k = false ∧ (bAt m.br k).tap = 1) ∨ (ofT m 1 k = false ∧ ofT m 0 k = true ∧ (bAt m.br k).tap = 0) := by
 obtain ⟨⟨h0, h1⟩, _⟩ := hm.br k hk
 unfold ofT
 rw [hr]
 have h : (bAt m.br k).tap = 0 ∨ (bAt m.br k).tap = 1 := by omega
 rcases h with h | h <;> rw [h] <;> decide
theorem num_a {m : Mac} (hm : MacV m) (l : Lim) : ∀ L : List Nat, (∀ k ∈ L, k < m.br.length ∧ isRes m k = false) → numL m l 0 L = l.volt * aT m 1 L ∧ denL m L = aT m 1 L + aT m 0 L := by
 refine snoc_ind ?_ ?_
 ·intro _
  unfold numL denL aT
  simp
 ·intro L k ih hL
  obtain ⟨e1, e2⟩ := ih (fun j hj => hL j (List.mem_append_left _ hj))
  obtain ⟨hk, hr⟩ := hL k (by simp)
  rw [numL_snoc, denL_snoc, aT_snoc, aT_snoc, e1, e2]
  unfold volA
  rcases tap_ov hm hk hr with ⟨h1, h0, ht⟩ | ⟨h1, h0, ht⟩
  ·rw [if_pos h1, if_neg (by rw [h0]; decide), ht]
   constructor
   ·grind
   ·omega
  ·rw [if_neg (by rw [h1]; decide), if_pos h0, ht]
   constructor
   ·grind
   ·omega
theorem cirZ_a {m : Mac} {l : Lim} {s : Nat} (hn : ∀ k ∈ cloU s 6, isRes m k = false) (h6 : m.br.length ≤ 6) : ∀ n, n ≤ m.br.length → cirZ m l s n = (l.volt * (outT m l s 0).2 - (outT m l s 0).1) * aT m 1 (cloU s n)
 | 0, _ => by unfold cirZ cloU aT; simp
 | n + 1, h => by
  have ih := cirZ_a (l := l) hn h6 n (by omega)
  have hd : dirD m (cloU s 6) = -1 := by
   rcases dirD_cases m (cloU s 6) with ⟨h1, _⟩ | ⟨d, h1, h2, h3⟩
   ·exact h1
   ·rw [hn d h1] at h2; exact absurd h2 (by decide)
  have e : cirZ m l s (n + 1) = if (bAt m.br n).tap = 1 then cirZ m l s n + zcur m l s 0 n else cirZ m l s n := rfl
  rw [e, ih]
  cases hb : s.testBit n
  ·rw [cloU_no hb]
   have hz : zcur m l s 0 n = 0 := by
    unfold zcur
    rw [if_neg (fun hh => by have := (clo_mem hh.1).2; rw [hb] at this; exact absurd this (by decide)), hd, if_neg (by omega)]
   rw [hz]
   split <;> omega
  ·have hmem : n ∈ cloU s 6 := by
     unfold cloU
     rw [List.mem_filter, List.mem_range]
     exact ⟨by omega, hb⟩
   have hr := hn n hmem
   rw [cloU_yes hb, aT_snoc]
   by_cases ht : (bAt m.br n).tap = 1
   ·rw [if_pos ht, if_pos (by unfold ofT; rw [hr, ht]; decide)]
    have hz : zcur m l s 0 n = ovr m l (outT m l s 0).1 (outT m l s 0).2 n * (2520 / (bAt m.br n).res) := by
     unfold zcur; rw [if_pos ⟨hmem, hr⟩]
    rw [hz]
    unfold ovr volA
    rw [ht]
    grind
   ·rw [if_neg ht, if_neg (by unfold ofT; rw [hr, decide_eq_false ht]; decide)]
theorem cirA_small {m : Mac} {l : Lim} {s : Nat} (h : ElV m l s 0) : (cirF m l s m.br.length).1.natAbs ≤ 1000000000 := by
 have h6 := h.hm.n1
 cases hf : (cloU s 6).find? (isRes m) with
 | some k =>
  have hk := List.mem_of_find?_eq_some hf
  have hkl := h.lt k hk
  have e : outT m l s 0 = (volA m l k, 1) := by unfold outT; rw [hf]
  obtain ⟨v0, v1⟩ := vol_bd h.hm h.hl hkl
  have ho : ∀ j, j < m.br.length → (ovr m l (outT m l s 0).1 (outT m l s 0).2 j).natAbs ≤ 1000 := by
   intro j hj
   obtain ⟨u0, u1⟩ := vol_bd h.hm h.hl hj
   rw [e]
   unfold ovr
   simp only
   omega
  have hq : ∀ j, j < m.br.length → isRes m j = false → (ovr m l (outT m l s 0).1 (outT m l s 0).2 j * (2520 / (bAt m.br j).res)).natAbs ≤ 2520000 := by
   intro j hj hn
   have : (bAt m.br j).res ≠ 0 := by unfold isRes at hn; simpa using hn
   obtain ⟨_, r0, r1⟩ := h.hm.br j hj
   obtain ⟨q0, q1⟩ := div_res (r := (bAt m.br j).res) (by omega) r1
   exact mulB (ho j hj) (show (2520 / (bAt m.br j).res).natAbs ≤ 2520 by omega)
  have hrst : ∀ L : List Nat, (∀ j ∈ L, j < m.br.length) → (rstZ m l 0 (outT m l s 0).1 (outT m l s 0).2 L).natAbs ≤ L.length * 2520000 := by
   refine snoc_ind ?_ ?_
   ·intro _; unfold rstZ; simp
   ·intro L j ih hL
    have ih := ih (fun i hi => hL i (List.mem_append_left _ hi))
    have hj := hL j (by simp)
    rw [rstZ_snoc, List.length_append, List.length_singleton, Nat.succ_mul]
    split
    ·exact Nat.le_trans ih (Nat.le_add_right _ _)
    ·rename_i hn
     have h3 := hq j hj (by simpa using hn)
     clear hj hL ho hq
     generalize ovr m l (outT m l s 0).1 (outT m l s 0).2 j * (2520 / (bAt m.br j).res) = y at *
     generalize rstZ m l 0 (outT m l s 0).1 (outT m l s 0).2 L = R at *
     generalize L.length * 2520000 = T at *
     have h4 : (R - y).natAbs ≤ R.natAbs + y.natAbs := Int.natAbs_sub_le R y
     exact Nat.le_trans h4 (Nat.add_le_add ih h3)
  have hz : ∀ j, j < m.br.length → (zcur m l s 0 j).natAbs ≤ 15120000 := by
   intro j hj
   unfold zcur
   split
   ·rename_i hh
    have := hq j hj hh.2
    omega
   ·split
    ·have := hrst (cloU s 6) h.lt
     have h2 := cloU_len s 6
     omega
    ·omega
  have hb := cirZ_bd hz m.br.length (Nat.le_refl _)
  obtain ⟨_, _, _, r⟩ := low_props (a := cirZ m l s m.br.length) h.com.1
  unfold cirF
  have : m.br.length * 15120000 ≤ 6 * 15120000 := Nat.mul_le_mul_right _ h6
  omega
 | none =>
  have hn : ∀ k ∈ cloU s 6, isRes m k = false := fun k hk => by
   have := List.find?_eq_none.1 hf k hk
   simpa using this
  have hc6 : cloU s 6 = cloU s m.br.length := cloU_six _ (by omega) s h.hs
  have hz := cirZ_a (l := l) hn h6 m.br.length (Nat.le_refl _)
  rw [← hc6] at hz
  obtain ⟨n1, n2⟩ := num_a h.hm l (cloU s 6) (fun k hk => ⟨h.lt k hk, hn k hk⟩)
  obtain ⟨a1, a2, a3, a4, a5, a6⟩ := pqT_eq h.hm 1 (cloU s 6) h.lt
  obtain ⟨b1, b2, b3, b4, b5, b6⟩ := pqT_eq h.hm 0 (cloU s 6) h.lt
  have hcs := cT_sum m (cloU s 6)
  have hl6 := cloU_len s 6
  have hbp := bdT_prod (cT m 1 (cloU s 6)) (by omega) (cT m 0 (cloU s 6)) (by omega) (by omega)
  have e : outT m l s 0 = low (numL m l 0 (cloU s 6)) (denL m (cloU s 6)) := by unfold outT; rw [hf]
  have hsd := (sums_bd h.hm h.hl (load := 0) (by decide) (cloU s 6) (fun k hk => ⟨h.lt k hk, by have := hn k hk; unfold isRes at this; simpa using this⟩)).2.1
  have hne := clo_ne s h.s64 h.h0
  have hAB : 0 < aT m 1 (cloU s 6) + aT m 0 (cloU s 6) := by rw [← n2]; omega
  obtain ⟨l1, l2, _, _⟩ := low_props (a := numL m l 0 (cloU s 6)) (b := denL m (cloU s 6)) (by omega)
  rw [← e, n1, n2] at l1
  rw [← e] at l2
  obtain ⟨V0, V1⟩ := h.hl
  have hbd1 := bdT_nonneg (cT m 1 (cloU s 6))
  have hbd0 := bdT_nonneg (cT m 0 (cloU s 6))
  have hcom : comD m l s 0 = 2520 * (outT m l s 0).2 := rfl
  unfold cirF
  rw [hz, hcom]
  generalize aT m 1 (cloU s 6) = a at *
  generalize aT m 0 (cloU s 6) = b at *
  generalize (pqT m 1 (cloU s 6)).1 = P at *
  generalize (pqT m 1 (cloU s 6)).2 = Q at *
  generalize (pqT m 0 (cloU s 6)).1 = R at *
  generalize (pqT m 0 (cloU s 6)).2 = S at *
  generalize bdT (cT m 1 (cloU s 6)) = B1 at *
  generalize bdT (cT m 0 (cloU s 6)) = B0 at *
  generalize (outT m l s 0).1 = N at *
  generalize (outT m l s 0).2 = D at *
  generalize l.volt = V at *
  have hden : 0 < P * S + R * Q := by
   have h1 : (P * S + R * Q) * 2520 = Q * S * (a + b) := by grind
   have h2 : 0 < Q * S * (a + b) := Int.mul_pos (Int.mul_pos a2 b2) hAB
   omega
  have key : low ((V * D - N) * a) (2520 * D) = low (V * (P * R)) (P * S + R * Q) := by
   refine low_congr (by omega) hden ?_
   have hab : (a + b) ≠ 0 := by omega
   have hQ : Q ≠ 0 := by omega
   have hS : S ≠ 0 := by omega
   have k1 : (V * D - N) * (a + b) = V * D * b := by grind
   have k2 : ((V * D - N) * a * (P * S + R * Q)) * (2520 * (a + b)) = V * D * b * a * (Q * S * (a + b)) := by
    have h1 : (P * S + R * Q) * 2520 = Q * S * (a + b) := by grind
    calc ((V * D - N) * a * (P * S + R * Q)) * (2520 * (a + b)) = ((V * D - N) * (a + b)) * a * ((P * S + R * Q) * 2520) := by grind
     _ = V * D * b * a * (Q * S * (a + b)) := by rw [k1, h1]
   have k3 : (V * (P * R) * (2520 * D)) * (2520 * (a + b)) = V * D * b * a * (Q * S * (a + b)) := by
    calc (V * (P * R) * (2520 * D)) * (2520 * (a + b)) = V * D * (P * 2520) * (R * 2520) * (a + b) := by grind
     _ = V * D * (Q * a) * (S * b) * (a + b) := by rw [a1, b1]
     _ = V * D * b * a * (Q * S * (a + b)) := by grind
   exact Int.eq_of_mul_eq_mul_right (show 2520 * (a + b) ≠ 0 by omega) (k2.trans k3.symm)
  rw [key]
  obtain ⟨_, _, _, r⟩ := low_props (a := V * (P * R)) hden
  have m1 : P * R ≤ B1 * B0 := Int.mul_le_mul a5 b5 b4 hbd1
  have m0 : 0 ≤ P * R := Int.mul_nonneg a4 b4
  have m2 : V * (P * R) ≤ 1000 * (P * R) := Int.mul_le_mul_of_nonneg_right V1 m0
  have m3 : 0 ≤ V * (P * R) := Int.mul_nonneg V0 m0
  omega
/- The output, the currents and the circulating current of the reference, as fractions. -/
open Go.RowKit Go.Shelf
set_option linter.unusedSimpArgs false
attribute [local go_sem] Oper.semAt_some
theorem smallQ_of {q : Rat} {a b : Int} (h : frR q = (a, b)) (ha : a.natAbs ≤ 1000000000) (hb : 0 < b ∧ b ≤ 1000000000) : smallQ q = true := by
 have h1 : q.num = a := congrArg Prod.fst h
 have h2 : (q.den : Int) = b := congrArg Prod.snd h
 unfold smallQ
 rw [h1, h2, Bool.and_eq_true, wi_iff, wi_iff]
 omega
theorem rneg_any (A : Nat → Prop) (v : Value) (q : Rat) (w : World) (h : RA A w v q) : Calls Tryz.prog 147 #[v] w fun e' w' => ∃ (s : Int) (a : Option Addr) (n c : Nat) (t : Int) (b : Option Addr) (m d : Nat), e' = .returned (.agg #[.int .i64 s, .slice a n c, .int .i64 t, .slice b m d]) ∧ Below w.heap.size w w' ∧ RA A w' (.agg #[.int .i64 s, .slice a n c, .int .i64 t, .slice b m d]) (-q) := by
 refine (ratioNeg_any _ v q w h (fun b hb => hb.2)).mono ?_
 rintro e' w' ⟨v', rfl, hb, hr⟩
 have H := RatioR.mono hr (fun b hb2 => (⟨hb2.1, Nat.lt_of_lt_of_le hb2.2 hb.size⟩ : ¬ A b ∧ b < w'.heap.size))
 obtain ⟨s, a, n, c, t, b, m, d, rfl, _, _⟩ := hr
 exact ⟨s, a, n, c, t, b, m, d, rfl, hb, H⟩
set_option maxHeartbeats 1000000 in
set_option maxRecDepth 100000 in
theorem rsize_any (s t : Int) (a b : Option Addr) (n c m d : Nat) (q : Rat) (w : World) (h : RB w (.agg #[.int .i64 s, .slice a n c, .int .i64 t, .slice b m d]) q) (hq : smallQ q = true) :
    Calls Tryz.prog 118 #[.agg #[.int .i64 s, .slice a n c, .int .i64 t, .slice b m d]] w fun e' w' => e' = .returned (.agg #[.int .i64 (sz q.num), .int .i64 (q.den : Int)]) ∧ Below w.heap.size w w' := by
 have hq2 : smallQ (-q) = true := by
  unfold smallQ at hq ⊢
  rw [Bool.and_eq_true, wi_iff, wi_iff] at hq ⊢
  rw [Rat.neg_num, neg_den]
  omega
 have HSQ := Lib.hid (And.intro hq hq2)
 have HA0 := Lib.hid (show RA (fun b => b = w.heap.size) w (.agg #[.int .i64 s, .slice a n c, .int .i64 t, .slice b m d]) q from RatioR.mono h (fun b hb => ⟨by omega, hb⟩))
 have hn : (q.num < 0 ∧ sz q.num = (-q).num ∧ ((-q).den : Int) = (q.den : Int)) ∨ (¬ q.num < 0 ∧ sz q.num = q.num) := by
  rw [Rat.neg_num, neg_den]
  unfold sz
  omega
 have hsg : q.num.sign < 0 ↔ q.num < 0 := by
  rcases Int.lt_trichotomy q.num 0 with h | h | h
  ·rw [Int.sign_eq_neg_one_of_neg h]; omega
  ·rw [h]; decide
  ·rw [Int.sign_eq_one_of_pos h]; omega
 obtain ⟨N, hN⟩ : ∃ N, N = sz q.num := ⟨_, rfl⟩
 obtain ⟨D, hD⟩ : ∃ D : Int, D = (q.den : Int) := ⟨_, rfl⟩
 rw [← hN, ← hD] at hn ⊢
 have HD := Lib.hid hD
 have HNN := Lib.hid hn
 have HSG := Lib.hid hsg
 clear h hq hq2 hn hsg hN hD
 go_enter Tryz.func118, Tryz.ntmps118
 go_wp2_with fail
 obtain ⟨w1, hW⟩ : ∃ w1, w1 = ((w.alloc (Obj.cells #[.int .i64 s, .slice a n c, .int .i64 t, .slice b m d] 174)).alloc (Obj.cells #[.int .i64 0, .int .i64 0] 85)) := ⟨_, rfl⟩
 rw [← hW]
 have hb1 : Below w.heap.size w w1 := by rw [hW]; (first|exact bwg|go_size)
 have k1 : BlkR w1 w.heap.size (.cells #[.int .i64 s, .slice a n c, .int .i64 t, .slice b m d] 174) := by
  have hba : Below (w.alloc (Obj.cells #[.int .i64 s, .slice a n c, .int .i64 t, .slice b m d] 174)).heap.size (w.alloc (Obj.cells #[.int .i64 s, .slice a n c, .int .i64 t, .slice b m d] 174)) w1 := by rw [hW]; (first|exact bwg|go_size)
  exact BlkR.below (w := w.alloc (Obj.cells #[.int .i64 s, .slice a n c, .int .i64 t, .slice b m d] 174)) (heap_alloc_new _ _) hba
 have k2 : BlkR w1 (w.heap.size + 1) (.cells #[.int .i64 0, .int .i64 0] 85) := by
  show w1.heap[w.heap.size + 1]? = _
  rw [hW]
  have := heap_alloc_new (w.alloc (Obj.cells #[.int .i64 s, .slice a n c, .int .i64 t, .slice b m d] 174)) (Obj.cells #[.int .i64 0, .int .i64 0] 85)
  simpa using this
 have hra : RA (fun b => b = w.heap.size) w1 (.agg #[.int .i64 s, .slice a n c, .int .i64 t, .slice b m d]) q := HA0.out.below hb1
 obtain ⟨X1, hX1⟩ : ∃ X, X = w.heap.size := ⟨_, rfl⟩
 obtain ⟨X2, hX2⟩ : ∃ X, X = w.heap.size + 1 := ⟨_, rfl⟩
 rw [← hX2] at k2
 rw [← hX1] at k1 hra
 simp only [← hX2]
 simp only [← hX1]
 have hx1 : w.heap.size ≤ X1 := by omega
 have hx2 : w.heap.size ≤ X2 := by omega
 have hx12 : X2 ≠ X1 := by omega
 clear hX1 hX2
 refine (rb_sign _ q w1 hra.rb).mono ?_
 rintro ex w2 ⟨rfl, hb2⟩
 generalize q.num.sign = SG at *
 have K1 := Lib.hid (k1.below hb2)
 have K2 := Lib.hid (k2.below hb2)
 have HA := Lib.hid (hra.below hb2)
 have HB := Lib.hid (hb1.trans (hb2.mono hb1.size))
 clear hW HA0 hra k1 k2 hb1 hb2
 obtain ⟨x0, x1, x2, x3, l1⟩ := blkc4 K1.out
 rcases HNN.out with ⟨hneg, hnn, hdd⟩ | ⟨hneg, hnn⟩
 ·have hs1 := HSG.out.2 hneg
  have f0 := blk_fz K1.out 0
  have f1 := blk_fz K1.out 1
  have f2 := blk_fz K1.out 2
  have f3 := blk_fz K1.out 3
  have HQN := Lib.hid (And.intro hnn hdd)
  clear hneg hnn hdd
  go_wp2_with fail
  refine (rneg_any _ _ q w2 HA.out).mono ?_
  rintro ey w3 ⟨s', a', n', c', t', b', m', d', rfl, hb3, hra⟩
  have K1 := Lib.hid (K1.out.below hb3)
  have K2 := Lib.hid (K2.out.below hb3)
  have HB := bwt HB hb3
  have HA := Lib.hid (hra.put (X := X1) rfl (.int .i64 s') (.slice a' n' c') (.int .i64 t') (.slice b' m' d'))
  clear hb3 hra x0 x1 x2 x3 f0 f1 f2 f3 l1
  obtain ⟨x0, x1, x2, x3, _⟩ := blkc4 K1.out
  have f0 := blk_fz K1.out 0
  have f1 := blk_fz K1.out 1
  have f2 := blk_fz K1.out 2
  have f3 := blk_fz K1.out 3
  have l1 := K1.out.lt
  have K2 := Lib.hid (show BlkR (set4 w3 X1 (.int .i64 s') (.slice a' n' c') (.int .i64 t') (.slice b' m' d')) X2 _ from (set4_other w3 X1 X2 _ _ _ _ hx12).trans K2.out)
  have HB := Lib.hid (set4_below HB.out hx1 (.int .i64 s') (.slice a' n' c') (.int .i64 t') (.slice b' m' d'))
  go_wp2_with fail
  clear x0 x1 x2 x3 f0 f1 f2 f3 l1
  have x0 := True.intro
  have x1 := True.intro
  have x2 := True.intro
  have x3 := True.intro
  have l1 := True.intro
  refine (rb_frac _ (-q) _ HA.out.rb).mono ?_
  rintro ey w4 ⟨rfl, hb4⟩
  rw [HSQ.out.2, if_pos rfl, if_pos rfl, HQN.out.2, ← HQN.out.1]
  have K2 := Lib.hid (K2.out.below hb4)
  have HB := bwt HB hb4
  clear hb4 x0 x1 x2 x3 l1 K1
  obtain ⟨d0, d1, _⟩ := blkc2 K2.out
  have f0 := blk_fz K2.out 0
  have f1 := blk_fz K2.out 1
  have l2 := K2.out.lt
  have hz := HB.out.size
  go_wp2
  refine bodyPost_ret (v := .agg #[.int .i64 N, .int .i64 D]) ?_ rfl ⟨rfl, Below.alloc ((HB.out.setCell hx2 _).setCell hx2 _) (by simpa using hz) _⟩
  have kx := blk_put2 K2.out (.int .i64 N) (.int .i64 D)
  have kw := (Below.heap_alloc _ (Obj.cells #[.int .i64 N, .int .i64 D] 85) _ (Array.getElem?_eq_some_iff.1 kx).1).trans kx
  generalize World.alloc _ _ = wz at *
  obtain ⟨e80, e81, _⟩ := blkc2 kw
  simp [results, Tryz.results118, go_sem, e80, e81]
 ·have hs1 : ¬ SG < 0 := fun h => by have := HSG.out.1 h; omega
  have HQN := Lib.hid hnn
  clear hneg hnn
  go_wp2_with fail
  refine (rb_frac _ q w2 HA.out.rb).mono ?_
  rintro ey w3 ⟨rfl, hb3⟩
  rw [HSQ.out.1, if_pos rfl, if_pos rfl, ← HD.out, ← HQN.out]
  have K2 := Lib.hid (K2.out.below hb3)
  have HB := bwt HB hb3
  clear hb3 x0 x1 x2 x3 l1 K1
  obtain ⟨d0, d1, _⟩ := blkc2 K2.out
  have f0 := blk_fz K2.out 0
  have f1 := blk_fz K2.out 1
  have l2 := K2.out.lt
  have hz := HB.out.size
  go_wp2
  refine bodyPost_ret (v := .agg #[.int .i64 N, .int .i64 D]) ?_ rfl ⟨rfl, Below.alloc ((HB.out.setCell hx2 _).setCell hx2 _) (by simpa using hz) _⟩
  have kx := blk_put2 K2.out (.int .i64 N) (.int .i64 D)
  have kw := (Below.heap_alloc _ (Obj.cells #[.int .i64 N, .int .i64 D] 85) _ (Array.getElem?_eq_some_iff.1 kx).1).trans kx
  generalize World.alloc _ _ = wz at *
  obtain ⟨e80, e81, _⟩ := blkc2 kw
  simp [results, Tryz.results118, go_sem, e80, e81]
end Go.Proofs.YtdjinmieogpgcaaGreat
/- The circulating current of the reference. -/
namespace Go.Proofs.YtdjinmieogpgcaaGreat
open Go.RowKit Go.Shelf
set_option linter.unusedVariables false
set_option linter.unusedSimpArgs false
attribute [local go_sem] Oper.semAt_some
set_option maxHeartbeats 2000000 in
set_option maxRecDepth 100000 in
theorem rcirculating_any (m : Mac) (l : Lim) (s : Nat) (ab ag : Option Addr) (nb cb ng cg : Nat) (w : World) (hb : BrR w ab nb m.br) (he : ElV m l s 0) :
    Calls Tryz.prog 86 #[.agg #[.slice ab nb cb, .int .i64 m.st, .slice ag ng cg], .agg #[.int .i64 l.volt, .int .i64 l.lo, .int .i64 l.hi, .int .i64 l.circ, .int .i64 l.brk, .int .i64 l.ret], .int .i64 (s : Int)] w fun e' w' => e' = .returned (.agg #[.int .i64 (cirA m l s).1, .int .i64 (cirA m l s).2]) ∧ Below w.heap.size w w' := by
 have HCU := Lib.hid (fun (W : World) (hbw : Below w.heap.size w W) => rcurrents_any m l s 0 ab ag nb cb ng cg W (hb.below hbw) he)
 have hn6 : nb ≤ 6 := by rw [← hb.len]; exact he.hm.n1
 have hlen := hb.len
 have HSZ := Lib.hid (show ∀ k, k < nb → Sz 2 (cirQ m l s k) ∧ Sz 2 (zQ m l s 0 k) from fun k hk => by
  have hco := he.com
  have hz := zcur_bd he (k := k) (by rw [hb.len]; exact hk)
  have hc := cirZ_bd (fun j hj => zcur_bd he hj) k (by rw [hb.len]; omega)
  have h7 : k * 800150400000 ≤ 6 * 800150400000 := Nat.mul_le_mul_right _ (by omega)
  exact ⟨sz_frac (by simp only [pw]; omega) hco.1 (by simp only [pw]; omega), sz_frac (by simp only [pw]; omega) hco.1 (by simp only [pw]; omega)⟩)
 have HBR := Lib.hid (fun (W : World) (hbw : Below w.heap.size w W) => hb.below hbw)
 have HPL := Lib.hid (fun (k : Nat) (ht : (bAt m.br k).tap = 1) => cirQ_plus (m := m) (l := l) (s := s) (k := k) he.com.1 ht)
 have HSK := Lib.hid (fun (k : Nat) (ht : (bAt m.br k).tap ≠ 1) => cirQ_skip (m := m) (l := l) (s := s) (k := k) ht)
 have HC0 := Lib.hid (cirQ_zero m l s)
 have hfr : frR (cirQ m l s nb) = cirF m l s m.br.length := by unfold cirQ cirF; rw [frR_low he.com.1, hb.len]
 have hbd := cirF_bd he (k := m.br.length) (Nat.le_refl _)
 have hsm : smallQ (cirQ m l s nb) = true := smallQ_of (a := (cirF m l s m.br.length).1) (b := (cirF m l s m.br.length).2) hfr (cirA_small he) (by omega)
 have HN := Lib.hid (show (cirA m l s).1 = sz (cirQ m l s nb).num ∧ (cirA m l s).2 = ((cirQ m l s nb).den : Int) from by
  have e1 : (cirF m l s m.br.length).1 = (cirQ m l s nb).num := (congrArg Prod.fst hfr).symm
  have e2 : (cirF m l s m.br.length).2 = ((cirQ m l s nb).den : Int) := (congrArg Prod.snd hfr).symm
  unfold cirA
  exact ⟨by rw [← e1], e2⟩)
 have HSM := Lib.hid hsm
 generalize cirQ m l s = CQ at *
 generalize zQ m l s 0 = ZQ at *
 obtain ⟨N, hN⟩ : ∃ N, N = (cirA m l s).1 := ⟨_, rfl⟩
 obtain ⟨D, hD⟩ : ∃ N, N = (cirA m l s).2 := ⟨_, rfl⟩
 rw [← hN, ← hD] at HN ⊢
 obtain ⟨st, hst⟩ : ∃ x, x = m.st := ⟨_, rfl⟩
 rw [← hst] at HCU ⊢
 clear hb he hst hfr hbd hsm hN hD hlen
 obtain ⟨vo, lo, hi', ci, br, re⟩ := l
 simp only at HCU ⊢
 go_enter Tryz.func86, Tryz.ntmps86
 go_wp2_with fail
 obtain ⟨w1, hW⟩ : ∃ w1, w1 = ((w.alloc (Obj.cells #[.slice ab nb cb, .int .i64 st, .slice ag ng cg] 45)).alloc (Obj.cells #[.int .i64 vo, .int .i64 lo, .int .i64 hi', .int .i64 ci, .int .i64 br, .int .i64 re] 47)) := ⟨_, rfl⟩
 obtain ⟨hb1, k4, k5⟩ := alc2 w (Obj.cells #[.slice ab nb cb, .int .i64 st, .slice ag ng cg] 45) (Obj.cells #[.int .i64 vo, .int .i64 lo, .int .i64 hi', .int .i64 ci, .int .i64 br, .int .i64 re] 47)
 rw [← hW] at hb1 k4 k5
 obtain ⟨X4, hX4⟩ : ∃ X, X = w.heap.size := ⟨_, rfl⟩
 obtain ⟨X5, hX5⟩ : ∃ X, X = w.heap.size + 1 := ⟨_, rfl⟩
 rw [← hX5] at k5
 have k4 : BlkR w1 X4 (.cells #[.slice ab nb cb, .int .i64 st, .slice ag ng cg] 45) := by rw [hX4]; exact k4
 have K4 := Lib.hid k4
 have K5 := Lib.hid k5
 have HB1 := Lib.hid hb1
 clear k4 k5 hb1
 rw [← hW]
 obtain ⟨w2, hW2⟩ : ∃ w2, w2 = w1.alloc (Obj.cells #[.int .i64 0, .int .i64 0] 85) := ⟨_, rfl⟩
 rw [← hW2]
 have hb2 : Below w1.heap.size w1 w2 := by rw [hW2]; (first|exact bwg|go_size)
 have hsz : w1.heap.size = w.heap.size + 1 + 1 := by rw [hW]; simp
 have k8 : BlkR w2 (w.heap.size + 1 + 1) (.cells #[.int .i64 0, .int .i64 0] 85) := by
  show w2.heap[w.heap.size + 1 + 1]? = _
  rw [hW2, ← hsz]
  exact heap_alloc_new _ _
 obtain ⟨X8, hX8⟩ : ∃ X, X = w.heap.size + 1 + 1 := ⟨_, rfl⟩
 rw [← hX8] at k8
 simp only [← hX8]
 simp only [← hX5]
 simp only [← hX4]
 have hx8 : w.heap.size ≤ X8 := by omega
 have K4 := Lib.hid (K4.out.below hb2)
 have K5 := Lib.hid (K5.out.below hb2)
 have K8 := Lib.hid k8
 have HB := bwt HB1 hb2
 clear hX4 hX5 hX8 hW hW2 hb2 hsz HB1 k8
 obtain ⟨q0, q1, q2, _⟩ := blkc3 K4.out
 obtain ⟨u0, u1, u2, u3, u4, u5, _⟩ := blkc6 K5.out
 have l4 := K4.out.lt
 have l5 := K5.out.lt
 go_wp2_with fail
 refine (HCU.out w2 HB.out).mono ?_
 rintro ex w3 ⟨A, g, cs, rfl, hb3, hg, hrow⟩
 have hgs := hrow.lt
 go_wp2_with fail
 refine (rb_int 0 w3 (by omega) (by omega)).mono ?_
 rintro ex w4 ⟨sA, aA, nA, cA, tA, bA, mA, dA, rfl, hb4, _, hA⟩
 go_wp2_with fail
 obtain ⟨w5, hW5⟩ : ∃ w5, w5 = w4.alloc (Obj.cells #[.int .i64 sA, .slice aA nA cA, .int .i64 tA, .slice bA mA dA] 174) := ⟨_, rfl⟩
 rw [← hW5]
 have hb5 : Below w4.heap.size w4 w5 := by rw [hW5]; (first|exact bwg|go_size)
 have k9 : BlkR w5 w4.heap.size (.cells #[.int .i64 sA, .slice aA nA cA, .int .i64 tA, .slice bA mA dA] 174) := by
  show w5.heap[w4.heap.size]? = _
  rw [hW5]
  exact heap_alloc_new _ _
 obtain ⟨X9, hX9⟩ : ∃ X, X = w4.heap.size := ⟨_, rfl⟩
 rw [← hX9] at k9
 simp only [← hX9]
 have z4 := hb4.size
 have z5 := hb5.size
 have hx9 : w3.heap.size ≤ X9 := by omega
 have hA2 := (RatioR.here hA).below hb5
 have HA0 : RA (fun b => b = X9) w5 (Qv.val ⟨sA, aA, nA, cA, tA, bA, mA, dA⟩) (CQ 0) := by
  rw [HC0.out]
  exact RatioR.mono hA2 (fun b hb => ⟨by omega, by omega⟩)
 have HB3 := bwt HB hb3
 have HROW := Lib.hid (fun (W : World) (h : Below w3.heap.size w3 W) => hrow.below h)
 have J4 := Lib.hid (K4.out.below hb3)
 have J8 := Lib.hid (K8.out.below hb3)
 have HU := Lib.hid HA0
 have K9 := Lib.hid k9
 have HBx := Lib.hid (hb4.trans (hb5.mono z4))
 clear q0 q1 q2 u0 u1 u2 u3 u4 u5 l4 l5
 clear hA hA2 HA0 hb3 hb4 hb5 hrow hg hgs z4 z5 hX9 hW5 k9 K4 K5 K8 HCU HC0
 go_loopw [9] (fun x wr => ∃ (k : Nat) (u : Qv), x = .int .i64 (k : Int) ∧ k ≤ nb ∧ Hid (BlkR wr X9 (.cells u.row 174)) ∧ Hid (RA (fun b => b = X9) wr u.val (CQ k)) ∧ Hid (Below w3.heap.size w3 wr)) (fun x _ => nb - (intOf x).toNat)
 case atStart => exact ⟨0, ⟨sA, aA, nA, cA, tA, bA, mA, dA⟩, rfl, Nat.zero_le _, K9, HU, HBx⟩
 case round =>
  clear K9 HU HBx
  obtain ⟨k, ⟨s1, a1, n1, c1', t1, b1, m1, d1'⟩, rfl, hk, K9, HU, HBx⟩ := hrel
  have i0 : (0 : Int) ≤ (k : Int) := by omega
  have K9 := Lib.hid (show BlkR wr X9 (.cells #[.int .i64 s1, .slice a1 n1 c1', .int .i64 t1, .slice b1 m1 d1'] 174) from K9.out)
  have HU := Lib.hid (show RA (fun b => b = X9) wr (.agg #[.int .i64 s1, .slice a1 n1 c1', .int .i64 t1, .slice b1 m1 d1']) _ from HU.out)
  have HRW := Lib.hid (HROW.out wr HBx.out)
  have K4 := Lib.hid (J4.out.below HBx.out)
  by_cases hlt : k < nb
  ·have i1 : (k : Int) < (nb : Int) := by omega
   obtain ⟨sE, aE, nE, cE, tE, bE, mE, dE, g0, g1, g2, g3, hra⟩ := HRW.out.at hlt
   have HE := Lib.hid hra
   have lg := HRW.out.lt
   have HBw := bwt HB3 HBx.out
   obtain ⟨bb, ob, rfl, hbb, hcc⟩ := (HBR.out _ HBw.out).addr (by omega)
   obtain ⟨c0, _⟩ := hcc k hlt
   obtain ⟨rr, hrr⟩ : ∃ r, r = (bAt m.br k).tap := ⟨_, rfl⟩
   have HPLX := Lib.hid (fun h => HPL.out k h)
   have HSKX := Lib.hid (fun h => HSK.out k h)
   rw [← hrr] at c0 HPLX HSKX
   have q0 := blk_cell K4.out (i := 0) rfl
   have l4 := K4.out.lt
   clear hcc hrr hra
   by_cases ht : rr = 1
   ·subst ht
    have HSX := Lib.hid (HSZ.out k hlt)
    have HOW := Lib.hid (show ∀ b, b = X9 → b < wr.heap.size from fun b hb => by have := K9.out.lt; omega)
    obtain ⟨y0, y1, y2, y3, _⟩ := blkc4 K9.out
    have f0 := blk_fz K9.out 0
    have f1 := blk_fz K9.out 1
    have f2 := blk_fz K9.out 2
    have f3 := blk_fz K9.out 3
    have l9 := K9.out.lt
    go_wp2_with fail
    have HN := Lib.hid (Below.refl wr.heap.size wr).drew
    refine wp_region_mixZ (B := wr.heap.size) [(true, 0), (true, 1), (true, 2), (true, 3), (true, 4), (false, 5), (false, 6)] 6 (by kernel_rfl) (by kernel_rfl) ?_; simp only [opsOf, List.filterMap_cons, List.filterMap_nil, List.getElem?_toArray, List.getElem?_cons_zero, List.getElem?_cons_succ, Option.map_some]
    repeat (refine mixz_head ?_; (show wpQuiet _ _ _ _ (_ :: _) _; go_big_quiet_step (fail)); refine wpQuiet_nil ?_)
    have HU := Lib.hid (HU.out.below (Below.refl _ _).drew)
    have HE := Lib.hid (HE.out.below (Below.refl _ _).drew)
    have K9 := Lib.hid (K9.out.below (Below.refl _ _).drew)
    refine mixz_tail ?_; go_wp2_with fail
    refine (rb_add _ _ _ _ 2 2 _ HU.out.rb HE.out.rb HSX.out.1 HSX.out.2 (by omega)).mono ?_
    rintro ex p1 ⟨sH, aH, nH, cH, tH, bH, mH, dH, rfl, hbx, _, hHs⟩
    have HH := Lib.hid (RA.new (A := fun b => b = X9) hHs.out (fun b hb => Nat.lt_of_lt_of_le (HOW.out b hb) HN.out.size))
    clear hHs
    have hzx := hbx.size
    have HN := bwt HN hbx
    have HU := Lib.hid (HU.out.below hbx)
    have HE := Lib.hid (HE.out.below hbx)
    have K9 := Lib.hid (K9.out.below hbx)
    clear hbx
    go_wp2_with fail
    refine tailL_mk HN.out ?_
    clear y0 y1 y2 y3 f0 f1 f2 f3 l9
    obtain ⟨y0, y1, y2, y3, _⟩ := blkc4 K9.out
    have f0 := blk_fz K9.out 0
    have f1 := blk_fz K9.out 1
    have f2 := blk_fz K9.out 2
    have f3 := blk_fz K9.out 3
    have l9 := K9.out.lt
    refine mixz_last ?_; go_wp2_with fail
    refine tailZ_end ?_
    clear y0 y1 y2 y3 f0 f1 f2 f3 l9
    have K9 := Lib.hid (show BlkR (set4 p1 X9 (.int .i64 sH) (.slice aH nH cH) (.int .i64 tH) (.slice bH mH dH)) X9 _ from set4_same K9.out _ _ _ _)
    have HU := Lib.hid (show RA (fun b => b = X9) _ _ (CQ (k + 1)) from by rw [← HPLX.out (by first | rfl | trivial)]; exact HH.out.put (X := X9) rfl (.int .i64 sH) (.slice aH nH cH) (.int .i64 tH) (.slice bH mH dH))
    have HBx := Lib.hid (set4_below (HBx.out.trans (HN.out.mono HBx.out.size)) hx9 (.int .i64 sH) (.slice aH nH cH) (.int .i64 tH) (.slice bH mH dH))
    clear g0 g1 g2 g3 c0 q0 l4
    go_wp2_with fail
    go_roundw
    case rel => exact ⟨k + 1, ⟨sH, aH, nH, cH, tH, bH, mH, dH⟩, by go_num, by omega, K9, HU, HBx⟩
    case measure => simp [intOf]; omega
   ·have hr0 : (rr == 1) = false := by simpa using ht
    have HSKY := Lib.hid (HSKX.out ht)
    clear ht
    go_wp2_with fail
    go_roundw
    case rel => exact ⟨k + 1, ⟨s1, a1, n1, c1', t1, b1, m1, d1'⟩, by go_num, by omega, K9, by rw [HSKY.out]; exact HU, HBx⟩
    case measure => simp [intOf]; omega
  ·obtain rfl : nb = k := by omega
   have HBw := bwt HB3 HBx.out
   obtain ⟨y0, y1, y2, y3, _⟩ := blkc4 K9.out
   have f0 := blk_fz K9.out 0
   have f1 := blk_fz K9.out 1
   have f2 := blk_fz K9.out 2
   have f3 := blk_fz K9.out 3
   have l9 := K9.out.lt
   go_wp2_with fail
   refine (rsize_any s1 t1 a1 b1 n1 c1' m1 d1' (CQ nb) wr HU.out.rb HSM.out).mono ?_
   rintro ey w7 ⟨rfl, hb7⟩
   rw [← HN.out.1, ← HN.out.2]
   have K8 := Lib.hid ((J8.out.below HBx.out).below hb7)
   have HBy := bwt HBw hb7
   clear y0 y1 y2 y3 f0 f1 f2 f3 l9
   clear hb7
   obtain ⟨d80, d81, _⟩ := blkc2 K8.out
   have f80 := blk_fz K8.out 0
   have f81 := blk_fz K8.out 1
   have l8 := K8.out.lt
   go_wp2
   refine bodyPost_ret (v := .agg #[.int .i64 N, .int .i64 D]) ?_ rfl ⟨rfl, (HBy.out.setCell hx8 _).setCell hx8 _⟩
   have kw := blk_put2 K8.out (.int .i64 N) (.int .i64 D)
   generalize World.setCell (World.setCell _ _ _) _ _ = wz at *
   obtain ⟨e80, e81, _⟩ := blkc2 kw
   simp [results, Tryz.results86, go_sem, e80, e81]
end Go.Proofs.YtdjinmieogpgcaaGreat
