import Derived.Test.YtidboecjllaofaaGreatMPlain0
import Derived.Test.YtidboecjllaofaaGreatMSchedMZ
import Derived.Test.YtidboecjllaofaaGreatMTElx
/- The circulating current has small parts, in plain words. -/
namespace Go.Proofs.YtidboecjllaofaaGreat
set_option linter.unusedVariables false
def ofT (m : Mac) (t : Int) (k : Nat) : Bool := decide ((bAt m.br k).tap = t) && !isRes m k
def pqT (m : Mac) (t : Int) (L : List Nat) : Int × Int := L.foldl (fun x k => if ofT m t k = true then (x.1 * (bAt m.br k).res + x.2, x.2 * (bAt m.br k).res) else x) (0, 1)
def aT (m : Mac) (t : Int) (L : List Nat) : Int := L.foldl (fun a k => if ofT m t k = true then a + 2520 / (bAt m.br k).res else a) 0
def cT (m : Mac) (t : Int) (L : List Nat) : Nat := L.foldl (fun a k => if ofT m t k = true then a + 1 else a) 0
theorem pqT_snoc (m : Mac) (t : Int) (L : List Nat) (k : Nat) : pqT m t (L ++ [k]) = if ofT m t k = true then ((pqT m t L).1 * (bAt m.br k).res + (pqT m t L).2, (pqT m t L).2 * (bAt m.br k).res) else pqT m t L := by unfold pqT; rw [List.foldl_append]; rfl
theorem aT_snoc (m : Mac) (t : Int) (L : List Nat) (k : Nat) : aT m t (L ++ [k]) = if ofT m t k = true then aT m t L + 2520 / (bAt m.br k).res else aT m t L := by unfold aT; rw [List.foldl_append]; rfl
theorem cT_snoc (m : Mac) (t : Int) (L : List Nat) (k : Nat) : cT m t (L ++ [k]) = if ofT m t k = true then cT m t L + 1 else cT m t L := by unfold cT; rw [List.foldl_append]; rfl
def bdT : Nat → Int
 | 0 => 0
 | c + 1 => bdT c * 10 + 10 ^ c
theorem bdT_nonneg : ∀ c, 0 ≤ bdT c
 | 0 => by decide
 | c + 1 => by
  have := bdT_nonneg c
  have h2 : (0 : Int) ≤ 10 ^ c := Int.le_of_lt (Int.pow_pos (by decide))
  show 0 ≤ bdT c * 10 + 10 ^ c
  omega
theorem pqT_eq {m : Mac} (hm : MacV m) (t : Int) : ∀ L : List Nat, (∀ k ∈ L, k < m.br.length) →
    (pqT m t L).1 * 2520 = (pqT m t L).2 * aT m t L ∧ 0 < (pqT m t L).2 ∧ (pqT m t L).2 ≤ 10 ^ cT m t L ∧ 0 ≤ (pqT m t L).1 ∧ (pqT m t L).1 ≤ bdT (cT m t L) ∧ 0 ≤ aT m t L := by
 refine snoc_ind ?_ ?_
 ·intro _
  exact ⟨rfl, Int.zero_lt_one, Int.le_refl 1, Int.le_refl 0, Int.le_refl 0, Int.le_refl 0⟩
 ·intro L k ih hL
  obtain ⟨e1, e2, e3, e4, e5, e6⟩ := ih (fun j hj => hL j (List.mem_append_left _ hj))
  rw [pqT_snoc, aT_snoc, cT_snoc]
  by_cases h : ofT m t k = true
  ·simp only [if_pos h]
   have hr : (bAt m.br k).res ≠ 0 := by
    unfold ofT isRes at h
    simp only [Bool.and_eq_true, Bool.not_eq_true', beq_eq_false_iff_ne] at h
    exact h.2
   obtain ⟨_, r0, r1⟩ := hm.br k (hL k (by simp))
   have e := res_cases (r := (bAt m.br k).res) (by omega) r1
   obtain ⟨d0, d1⟩ := div_res (r := (bAt m.br k).res) (by omega) r1
   have hb := bdT_nonneg (cT m t L)
   have hp : (0 : Int) < 10 ^ cT m t L := Int.pow_pos (by decide)
   have hsucc : (10 : Int) ^ (cT m t L + 1) = 10 ^ cT m t L * 10 := Int.pow_succ ..
   have hbs : bdT (cT m t L + 1) = bdT (cT m t L) * 10 + 10 ^ cT m t L := rfl
   rw [hsucc, hbs]
   generalize 2520 / (bAt m.br k).res = q at *
   generalize (bAt m.br k).res = r at *
   generalize (pqT m t L).1 = P at *
   generalize (pqT m t L).2 = Q at *
   generalize aT m t L = A at *
   generalize bdT (cT m t L) = B at *
   generalize (10 : Int) ^ cT m t L = T at *
   have p1 : P * r ≤ B * 10 := Int.mul_le_mul e5 r1 r0 hb
   have p2 : Q * r ≤ T * 10 := Int.mul_le_mul e3 r1 r0 (by omega)
   have p3 : 0 ≤ P * r := Int.mul_nonneg e4 r0
   have p4 : 0 < Q * r := Int.mul_pos e2 (by omega)
   exact ⟨by grind, p4, p2, by omega, by omega, by omega⟩
  ·simp only [if_neg h]
   exact ⟨e1, e2, e3, e4, e5, e6⟩
theorem cT_sum (m : Mac) : ∀ L : List Nat, cT m 1 L + cT m 0 L ≤ L.length := by
 refine snoc_ind (Nat.le_refl 0) (fun L k ih => ?_)
 rw [cT_snoc, cT_snoc, List.length_append, List.length_singleton]
 by_cases h1 : ofT m 1 k = true
 ·have h0 : ¬ ofT m 0 k = true := by
    intro h
    unfold ofT at h h1
    simp only [Bool.and_eq_true, decide_eq_true_eq] at h h1
    omega
  rw [if_pos h1, if_neg h0]; omega
 ·rw [if_neg h1]
  split <;> omega
theorem bdT_prod : ∀ c1 < 7, ∀ c0 < 7, c1 + c0 ≤ 6 → 1000 * (bdT c1 * bdT c0) ≤ 90000000 := by decide
theorem tap_ov {m : Mac} {k : Nat} (hm : MacV m) (hk : k < m.br.length) (hr : isRes m k = false) : (ofT m 1 k = true ∧ ofT m 0 k = false ∧ (bAt m.br k).tap = 1) ∨ (ofT m 1 k = false ∧ ofT m 0 k = true ∧ (bAt m.br k).tap = 0) := by
 obtain ⟨⟨h0, h1⟩, _⟩ := hm.br k hk
 unfold ofT
 rw [hr]
 have h : (bAt m.br k).tap = 0 ∨ (bAt m.br k).tap = 1 := by omega
 rcases h with h | h <;> rw [h] <;> decide
theorem num_a {m : Mac} (hm : MacV m) (l : Lim) : ∀ L : List Nat, (∀ k ∈ L, k < m.br.length ∧ isRes m k = false) → numL m l 0 L = l.volt * aT m 1 L ∧ denL m L = aT m 1 L + aT m 0 L := by
 refine snoc_ind ?_ ?_
 ·intro _
  unfold numL denL aT
  simp
 ·intro L k ih hL
  obtain ⟨e1, e2⟩ := ih (fun j hj => hL j (List.mem_append_left _ hj))
  obtain ⟨hk, hr⟩ := hL k (by simp)
  rw [numL_snoc, denL_snoc, aT_snoc, aT_snoc, e1, e2]
  unfold volA
  rcases tap_ov hm hk hr with ⟨h1, h0, ht⟩ | ⟨h1, h0, ht⟩
  ·rw [if_pos h1, if_neg (by rw [h0]; decide), ht]
   constructor
   ·grind
   ·omega
  ·rw [if_neg (by rw [h1]; decide), if_pos h0, ht]
   constructor
   ·grind
   ·omega
theorem cirZ_a {m : Mac} {l : Lim} {s : Nat} (hn : ∀ k ∈ cloU s 6, isRes m k = false) (h6 : m.br.length ≤ 6) : ∀ n, n ≤ m.br.length → cirZ m l s n = (l.volt * (outT m l s 0).2 - (outT m l s 0).1) * aT m 1 (cloU s n)
 | 0, _ => by unfold cirZ cloU aT; simp
 | n + 1, h => by
  have ih := cirZ_a (l := l) hn h6 n (by omega)
  have hd : dirD m (cloU s 6) = -1 := by
   rcases dirD_cases m (cloU s 6) with ⟨h1, _⟩ | ⟨d, h1, h2, h3⟩
   ·exact h1
   ·rw [hn d h1] at h2; exact absurd h2 (by decide)
  have e : cirZ m l s (n + 1) = if (bAt m.br n).tap = 1 then cirZ m l s n + zcur m l s 0 n else cirZ m l s n := rfl
  rw [e, ih]
  cases hb : s.testBit n
  ·rw [cloU_no hb]
   have hz : zcur m l s 0 n = 0 := by
    unfold zcur
    rw [if_neg (fun hh => by have := (clo_mem hh.1).2; rw [hb] at this; exact absurd this (by decide)), hd, if_neg (by omega)]
   rw [hz]
   split <;> omega
  ·have hmem : n ∈ cloU s 6 := by
     unfold cloU
     rw [List.mem_filter, List.mem_range]
     exact ⟨by omega, hb⟩
   have hr := hn n hmem
   rw [cloU_yes hb, aT_snoc]
   by_cases ht : (bAt m.br n).tap = 1
   ·rw [if_pos ht, if_pos (by unfold ofT; rw [hr, ht]; decide)]
    have hz : zcur m l s 0 n = ovr m l (outT m l s 0).1 (outT m l s 0).2 n * (2520 / (bAt m.br n).res) := by
     unfold zcur; rw [if_pos ⟨hmem, hr⟩]
    rw [hz]
    unfold ovr volA
    rw [ht]
    grind
   ·rw [if_neg ht, if_neg (by unfold ofT; rw [hr, decide_eq_false ht]; decide)]
theorem cirA_small {m : Mac} {l : Lim} {s : Nat} (h : ElV m l s 0) : (cirF m l s m.br.length).1.natAbs ≤ 1000000000 := by
 have h6 := h.hm.n1
 cases hf : (cloU s 6).find? (isRes m) with
 | some k =>
  have hk := List.mem_of_find?_eq_some hf
  have hkl := h.lt k hk
  have e : outT m l s 0 = (volA m l k, 1) := by unfold outT; rw [hf]
  obtain ⟨v0, v1⟩ := vol_bd h.hm h.hl hkl
  have ho : ∀ j, j < m.br.length → (ovr m l (outT m l s 0).1 (outT m l s 0).2 j).natAbs ≤ 1000 := by
   intro j hj
   obtain ⟨u0, u1⟩ := vol_bd h.hm h.hl hj
   rw [e]
   unfold ovr
   simp only
   omega
  have hq : ∀ j, j < m.br.length → isRes m j = false → (ovr m l (outT m l s 0).1 (outT m l s 0).2 j * (2520 / (bAt m.br j).res)).natAbs ≤ 2520000 := by
   intro j hj hn
   have : (bAt m.br j).res ≠ 0 := by unfold isRes at hn; simpa using hn
   obtain ⟨_, r0, r1⟩ := h.hm.br j hj
   obtain ⟨q0, q1⟩ := div_res (r := (bAt m.br j).res) (by omega) r1
   exact mulB (ho j hj) (show (2520 / (bAt m.br j).res).natAbs ≤ 2520 by omega)
  have hrst : ∀ L : List Nat, (∀ j ∈ L, j < m.br.length) → (rstZ m l 0 (outT m l s 0).1 (outT m l s 0).2 L).natAbs ≤ L.length * 2520000 := by
   refine snoc_ind ?_ ?_
   ·intro _; unfold rstZ; simp
   ·intro L j ih hL
    have ih := ih (fun i hi => hL i (List.mem_append_left _ hi))
    have hj := hL j (by simp)
    rw [rstZ_snoc, List.length_append, List.length_singleton, Nat.succ_mul]
    split
    ·exact Nat.le_trans ih (Nat.le_add_right _ _)
    ·rename_i hn
     have h3 := hq j hj (by simpa using hn)
     clear hj hL ho hq
     generalize ovr m l (outT m l s 0).1 (outT m l s 0).2 j * (2520 / (bAt m.br j).res) = y at *
     generalize rstZ m l 0 (outT m l s 0).1 (outT m l s 0).2 L = R at *
     generalize L.length * 2520000 = T at *
     have h4 : (R - y).natAbs ≤ R.natAbs + y.natAbs := Int.natAbs_sub_le R y
     exact Nat.le_trans h4 (Nat.add_le_add ih h3)
  have hz : ∀ j, j < m.br.length → (zcur m l s 0 j).natAbs ≤ 15120000 := by
   intro j hj
   unfold zcur
   split
   ·rename_i hh
    have := hq j hj hh.2
    omega
   ·split
    ·have := hrst (cloU s 6) h.lt
     have h2 := cloU_len s 6
     omega
    ·omega
  have hb := cirZ_bd hz m.br.length (Nat.le_refl _)
  obtain ⟨_, _, _, r⟩ := low_props (a := cirZ m l s m.br.length) h.com.1
  unfold cirF
  have : m.br.length * 15120000 ≤ 6 * 15120000 := Nat.mul_le_mul_right _ h6
  omega
 | none =>
  have hn : ∀ k ∈ cloU s 6, isRes m k = false := fun k hk => by
   have := List.find?_eq_none.1 hf k hk
   simpa using this
  have hc6 : cloU s 6 = cloU s m.br.length := cloU_six _ (by omega) s h.hs
  have hz := cirZ_a (l := l) hn h6 m.br.length (Nat.le_refl _)
  rw [← hc6] at hz
  obtain ⟨n1, n2⟩ := num_a h.hm l (cloU s 6) (fun k hk => ⟨h.lt k hk, hn k hk⟩)
  obtain ⟨a1, a2, a3, a4, a5, a6⟩ := pqT_eq h.hm 1 (cloU s 6) h.lt
  obtain ⟨b1, b2, b3, b4, b5, b6⟩ := pqT_eq h.hm 0 (cloU s 6) h.lt
  have hcs := cT_sum m (cloU s 6)
  have hl6 := cloU_len s 6
  have hbp := bdT_prod (cT m 1 (cloU s 6)) (by omega) (cT m 0 (cloU s 6)) (by omega) (by omega)
  have e : outT m l s 0 = low (numL m l 0 (cloU s 6)) (denL m (cloU s 6)) := by unfold outT; rw [hf]
  have hsd := (sums_bd h.hm h.hl (load := 0) (by decide) (cloU s 6) (fun k hk => ⟨h.lt k hk, by have := hn k hk; unfold isRes at this; simpa using this⟩)).2.1
  have hne := clo_ne s h.s64 h.h0
  have hAB : 0 < aT m 1 (cloU s 6) + aT m 0 (cloU s 6) := by rw [← n2]; omega
  obtain ⟨l1, l2, _, _⟩ := low_props (a := numL m l 0 (cloU s 6)) (b := denL m (cloU s 6)) (by omega)
  rw [← e, n1, n2] at l1
  rw [← e] at l2
  obtain ⟨V0, V1⟩ := h.hl
  have hbd1 := bdT_nonneg (cT m 1 (cloU s 6))
  have hbd0 := bdT_nonneg (cT m 0 (cloU s 6))
  have hcom : comD m l s 0 = 2520 * (outT m l s 0).2 := rfl
  unfold cirF
  rw [hz, hcom]
  generalize aT m 1 (cloU s 6) = a at *
  generalize aT m 0 (cloU s 6) = b at *
  generalize (pqT m 1 (cloU s 6)).1 = P at *
  generalize (pqT m 1 (cloU s 6)).2 = Q at *
  generalize (pqT m 0 (cloU s 6)).1 = R at *
  generalize (pqT m 0 (cloU s 6)).2 = S at *
  generalize bdT (cT m 1 (cloU s 6)) = B1 at *
  generalize bdT (cT m 0 (cloU s 6)) = B0 at *
  generalize (outT m l s 0).1 = N at *
  generalize (outT m l s 0).2 = D at *
  generalize l.volt = V at *
  have hden : 0 < P * S + R * Q := by
   have h1 : (P * S + R * Q) * 2520 = Q * S * (a + b) := by grind
   have h2 : 0 < Q * S * (a + b) := Int.mul_pos (Int.mul_pos a2 b2) hAB
   omega
  have key : low ((V * D - N) * a) (2520 * D) = low (V * (P * R)) (P * S + R * Q) := by
   refine low_congr (by omega) hden ?_
   have hab : (a + b) ≠ 0 := by omega
   have hQ : Q ≠ 0 := by omega
   have hS : S ≠ 0 := by omega
   have k1 : (V * D - N) * (a + b) = V * D * b := by grind
   have k2 : ((V * D - N) * a * (P * S + R * Q)) * (2520 * (a + b)) = V * D * b * a * (Q * S * (a + b)) := by
    have h1 : (P * S + R * Q) * 2520 = Q * S * (a + b) := by grind
    calc ((V * D - N) * a * (P * S + R * Q)) * (2520 * (a + b)) = ((V * D - N) * (a + b)) * a * ((P * S + R * Q) * 2520) := by grind
     _ = V * D * b * a * (Q * S * (a + b)) := by rw [k1, h1]
   have k3 : (V * (P * R) * (2520 * D)) * (2520 * (a + b)) = V * D * b * a * (Q * S * (a + b)) := by
    calc (V * (P * R) * (2520 * D)) * (2520 * (a + b)) = V * D * (P * 2520) * (R * 2520) * (a + b) := by grind
     _ = V * D * (Q * a) * (S * b) * (a + b) := by rw [a1, b1]
     _ = V * D * b * a * (Q * S * (a + b)) := by grind
   exact Int.eq_of_mul_eq_mul_right (show 2520 * (a + b) ≠ 0 by omega) (k2.trans k3.symm)
  rw [key]
  obtain ⟨_, _, _, r⟩ := low_props (a := V * (P * R)) hden
  have m1 : P * R ≤ B1 * B0 := Int.mul_le_mul a5 b5 b4 hbd1
  have m0 : 0 ≤ P * R := Int.mul_nonneg a4 b4
  have m2 : V * (P * R) ≤ 1000 * (P * R) := Int.mul_le_mul_of_nonneg_right V1 m0
  have m3 : 0 ≤ V * (P * R) := Int.mul_nonneg V0 m0
  omega
end Go.Proofs.YtidboecjllaofaaGreat

/- The output, the currents and the circulating current of the reference, as fractions. -/
namespace Go.Proofs.YtidboecjllaofaaGreat
open Go.RowKit Go.Shelf
set_option linter.unusedVariables false
set_option linter.unusedSimpArgs false
attribute [local go_sem] Oper.semAt_some
theorem infoFrac6 : (Tryz.prog.info? 58).map (fun i => (i.zero, i.size, i.bytes)) = some (some (.agg #[.int .i64 0, .int .i64 0]), 2, 16) := by kernel_rfl
theorem smallQ_of {q : Rat} {a b : Int} (h : frR q = (a, b)) (ha : a.natAbs ≤ 1000000000) (hb : 0 < b ∧ b ≤ 1000000000) : smallQ q = true := by
 have h1 : q.num = a := congrArg Prod.fst h
 have h2 : (q.den : Int) = b := congrArg Prod.snd h
 unfold smallQ
 rw [h1, h2, Bool.and_eq_true, wi_iff, wi_iff]
 omega
theorem frR_of {m : Mac} {l : Lim} {s : Nat} {load : Int} (h : ElV m l s load) : frR (outQ m l s load) = outT m l s load := by
 cases hf : (cloU s 6).find? (isRes m) with
 | some k =>
  unfold outQ outT
  rw [hf]
  show frR (Rat.divInt (volA m l k) 1) = _
  rw [← low_rat (by decide), low_one']
 | none =>
  have hsd := (sums_bd h.hm h.hl h.hd (cloU s 6) (fun k hk => ⟨h.lt k hk, by have := List.find?_eq_none.1 hf k hk; unfold isRes at this; simpa using this⟩)).2.1
  have hne := clo_ne s h.s64 h.h0
  exact frR_out (by omega)
theorem rneg_any (A : Nat → Prop) (v : Value) (q : Rat) (w : World) (h : RA A w v q) : Calls Tryz.prog 107 #[v] w fun e' w' => ∃ (s : Int) (a : Option Addr) (n c : Nat) (t : Int) (b : Option Addr) (m d : Nat), e' = .returned (.agg #[.int .i64 s, .slice a n c, .int .i64 t, .slice b m d]) ∧ Below w.heap.size w w' ∧ RA A w' (.agg #[.int .i64 s, .slice a n c, .int .i64 t, .slice b m d]) (-q) := by
 refine (ratioNeg_any _ v q w h (fun b hb => hb.2)).mono ?_
 rintro e' w' ⟨v', rfl, hb, hr⟩
 have H := RatioR.mono hr (fun b hb2 => (⟨hb2.1, Nat.lt_of_lt_of_le hb2.2 hb.size⟩ : ¬ A b ∧ b < w'.heap.size))
 obtain ⟨s, a, n, c, t, b, m, d, rfl, _, _⟩ := hr
 exact ⟨s, a, n, c, t, b, m, d, rfl, hb, H⟩
set_option maxHeartbeats 1000000 in
set_option maxRecDepth 100000 in
theorem rsize_any (s t : Int) (a b : Option Addr) (n c m d : Nat) (q : Rat) (w : World) (h : RB w (.agg #[.int .i64 s, .slice a n c, .int .i64 t, .slice b m d]) q) (hq : smallQ q = true) :
    Calls Tryz.prog 117 #[.agg #[.int .i64 s, .slice a n c, .int .i64 t, .slice b m d]] w fun e' w' => e' = .returned (.agg #[.int .i64 (sz q.num), .int .i64 (q.den : Int)]) ∧ Below w.heap.size w w' := by
 have hq2 : smallQ (-q) = true := by
  unfold smallQ at hq ⊢
  rw [Bool.and_eq_true, wi_iff, wi_iff] at hq ⊢
  rw [Rat.neg_num, neg_den]
  omega
 have HSQ := Lib.hid (And.intro hq hq2)
 have HA0 := Lib.hid (show RA (fun b => b = w.heap.size) w (.agg #[.int .i64 s, .slice a n c, .int .i64 t, .slice b m d]) q from RatioR.mono h (fun b hb => ⟨by omega, hb⟩))
 have hn : (q.num < 0 ∧ sz q.num = (-q).num ∧ ((-q).den : Int) = (q.den : Int)) ∨ (¬ q.num < 0 ∧ sz q.num = q.num) := by
  rw [Rat.neg_num, neg_den]
  unfold sz
  omega
 have hsg : q.num.sign < 0 ↔ q.num < 0 := by
  rcases Int.lt_trichotomy q.num 0 with h | h | h
  ·rw [Int.sign_eq_neg_one_of_neg h]; omega
  ·rw [h]; decide
  ·rw [Int.sign_eq_one_of_pos h]; omega
 obtain ⟨N, hN⟩ : ∃ N, N = sz q.num := ⟨_, rfl⟩
 obtain ⟨D, hD⟩ : ∃ D : Int, D = (q.den : Int) := ⟨_, rfl⟩
 rw [← hN, ← hD] at hn ⊢
 have HD := Lib.hid hD
 have HNN := Lib.hid hn
 have HSG := Lib.hid hsg
 clear h hq hq2 hn hsg hN hD
 go_enter Tryz.func117, Tryz.ntmps117
 go_wp2_with fail
 obtain ⟨w1, hW⟩ : ∃ w1, w1 = ((w.alloc (Obj.cells #[.int .i64 s, .slice a n c, .int .i64 t, .slice b m d] 66)).alloc (Obj.cells #[.int .i64 0, .int .i64 0] 58)) := ⟨_, rfl⟩
 rw [← hW]
 have hb1 : Below w.heap.size w w1 := by rw [hW]; (repeat' first | (with_reducible first | exact bw1 | assumption | refine bw2 ?_ _ | refine bw3 ?_ ?_ _ | refine bw4 ?_ | refine bw5 ?_ ?_ _ | refine bw6 (by assumption) ?_ ?_ | exact And.left (by assumption)) | go_size)
 have k1 : BlkR w1 w.heap.size (.cells #[.int .i64 s, .slice a n c, .int .i64 t, .slice b m d] 66) := by
  have hba : Below (w.alloc (Obj.cells #[.int .i64 s, .slice a n c, .int .i64 t, .slice b m d] 66)).heap.size (w.alloc (Obj.cells #[.int .i64 s, .slice a n c, .int .i64 t, .slice b m d] 66)) w1 := by rw [hW]; (repeat' first | (with_reducible first | exact bw1 | assumption | refine bw2 ?_ _ | refine bw3 ?_ ?_ _ | refine bw4 ?_ | refine bw5 ?_ ?_ _ | refine bw6 (by assumption) ?_ ?_ | exact And.left (by assumption)) | go_size)
  exact BlkR.below (w := w.alloc (Obj.cells #[.int .i64 s, .slice a n c, .int .i64 t, .slice b m d] 66)) (heap_alloc_new _ _) hba
 have k2 : BlkR w1 (w.heap.size + 1) (.cells #[.int .i64 0, .int .i64 0] 58) := by
  show w1.heap[w.heap.size + 1]? = _
  rw [hW]
  have := heap_alloc_new (w.alloc (Obj.cells #[.int .i64 s, .slice a n c, .int .i64 t, .slice b m d] 66)) (Obj.cells #[.int .i64 0, .int .i64 0] 58)
  simpa using this
 have hra : RA (fun b => b = w.heap.size) w1 (.agg #[.int .i64 s, .slice a n c, .int .i64 t, .slice b m d]) q := HA0.out.below hb1
 obtain ⟨X1, hX1⟩ : ∃ X, X = w.heap.size := ⟨_, rfl⟩
 obtain ⟨X2, hX2⟩ : ∃ X, X = w.heap.size + 1 := ⟨_, rfl⟩
 rw [← hX2] at k2
 rw [← hX1] at k1 hra
 simp only [← hX2]
 simp only [← hX1]
 have hx1 : w.heap.size ≤ X1 := by omega
 have hx2 : w.heap.size ≤ X2 := by omega
 have hx12 : X2 ≠ X1 := by omega
 clear hX1 hX2
 refine (rb_sign _ q w1 hra.rb).mono ?_
 rintro ex w2 ⟨rfl, hb2⟩
 generalize q.num.sign = SG at *
 have K1 := Lib.hid (k1.below hb2)
 have K2 := Lib.hid (k2.below hb2)
 have HA := Lib.hid (hra.below hb2)
 have HB := Lib.hid (hb1.trans (hb2.mono hb1.size))
 clear hW HA0 hra k1 k2 hb1 hb2
 obtain ⟨x0, x1, x2, x3, l1⟩ := blkc4 K1.out
 rcases HNN.out with ⟨hneg, hnn, hdd⟩ | ⟨hneg, hnn⟩
 ·have hs1 := HSG.out.2 hneg
  have f0 := blk_fz K1.out 0
  have f1 := blk_fz K1.out 1
  have f2 := blk_fz K1.out 2
  have f3 := blk_fz K1.out 3
  have HQN := Lib.hid (And.intro hnn hdd)
  clear hneg hnn hdd
  go_wp2_with fail
  refine (rneg_any _ _ q w2 HA.out).mono ?_
  rintro ey w3 ⟨s', a', n', c', t', b', m', d', rfl, hb3, hra⟩
  have K1 := Lib.hid (K1.out.below hb3)
  have K2 := Lib.hid (K2.out.below hb3)
  have HB := Lib.hid (HB.out.trans (hb3.mono HB.out.size))
  have HA := Lib.hid (hra.put (X := X1) rfl (.int .i64 s') (.slice a' n' c') (.int .i64 t') (.slice b' m' d'))
  clear hb3 hra x0 x1 x2 x3 f0 f1 f2 f3 l1
  obtain ⟨x0, x1, x2, x3, _⟩ := blkc4 K1.out
  have f0 := blk_fz K1.out 0
  have f1 := blk_fz K1.out 1
  have f2 := blk_fz K1.out 2
  have f3 := blk_fz K1.out 3
  have l1 := K1.out.lt
  have K2 := Lib.hid (show BlkR (set4 w3 X1 (.int .i64 s') (.slice a' n' c') (.int .i64 t') (.slice b' m' d')) X2 _ from (set4_other w3 X1 X2 _ _ _ _ hx12).trans K2.out)
  have HB := Lib.hid (set4_below HB.out hx1 (.int .i64 s') (.slice a' n' c') (.int .i64 t') (.slice b' m' d'))
  go_wp2_with fail
  clear x0 x1 x2 x3 f0 f1 f2 f3 l1
  have x0 := True.intro
  have x1 := True.intro
  have x2 := True.intro
  have x3 := True.intro
  have l1 := True.intro
  refine (rb_frac _ (-q) _ HA.out.rb).mono ?_
  rintro ey w4 ⟨rfl, hb4⟩
  rw [HSQ.out.2, if_pos rfl, if_pos rfl, HQN.out.2, ← HQN.out.1]
  have K2 := Lib.hid (K2.out.below hb4)
  have HB := Lib.hid (HB.out.trans (hb4.mono HB.out.size))
  clear hb4 x0 x1 x2 x3 l1 K1
  obtain ⟨d0, d1, _⟩ := blkc2 K2.out
  have f0 := blk_fz K2.out 0
  have f1 := blk_fz K2.out 1
  have l2 := K2.out.lt
  have hz := HB.out.size
  go_wp2
  refine bodyPost_ret (v := .agg #[.int .i64 N, .int .i64 D]) ?_ rfl ⟨rfl, Below.alloc ((HB.out.setCell hx2 _).setCell hx2 _) (by simpa using hz) _⟩
  have kx := blk_put2 K2.out (.int .i64 N) (.int .i64 D)
  have kw := (Below.heap_alloc _ (Obj.cells #[.int .i64 N, .int .i64 D] 58) _ (Array.getElem?_eq_some_iff.1 kx).1).trans kx
  generalize World.alloc _ _ = wz at *
  obtain ⟨e80, e81, _⟩ := blkc2 kw
  simp [results, Tryz.results117, go_sem, e80, e81]
 ·have hs1 : ¬ SG < 0 := fun h => by have := HSG.out.1 h; omega
  have HQN := Lib.hid hnn
  clear hneg hnn
  go_wp2_with fail
  refine (rb_frac _ q w2 HA.out.rb).mono ?_
  rintro ey w3 ⟨rfl, hb3⟩
  rw [HSQ.out.1, if_pos rfl, if_pos rfl, ← HD.out, ← HQN.out]
  have K2 := Lib.hid (K2.out.below hb3)
  have HB := Lib.hid (HB.out.trans (hb3.mono HB.out.size))
  clear hb3 x0 x1 x2 x3 l1 K1
  obtain ⟨d0, d1, _⟩ := blkc2 K2.out
  have f0 := blk_fz K2.out 0
  have f1 := blk_fz K2.out 1
  have l2 := K2.out.lt
  have hz := HB.out.size
  go_wp2
  refine bodyPost_ret (v := .agg #[.int .i64 N, .int .i64 D]) ?_ rfl ⟨rfl, Below.alloc ((HB.out.setCell hx2 _).setCell hx2 _) (by simpa using hz) _⟩
  have kx := blk_put2 K2.out (.int .i64 N) (.int .i64 D)
  have kw := (Below.heap_alloc _ (Obj.cells #[.int .i64 N, .int .i64 D] 58) _ (Array.getElem?_eq_some_iff.1 kx).1).trans kx
  generalize World.alloc _ _ = wz at *
  obtain ⟨e80, e81, _⟩ := blkc2 kw
  simp [results, Tryz.results117, go_sem, e80, e81]
set_option maxHeartbeats 1000000 in
set_option maxRecDepth 100000 in
theorem routputF_any (m : Mac) (l : Lim) (s : Nat) (load : Int) (ab ag : Option Addr) (nb cb ng cg : Nat) (w : World) (hb : BrR w ab nb m.br) (he : ElV m l s load) :
    Calls Tryz.prog 45 #[.agg #[.slice ab nb cb, .int .i64 m.st, .slice ag ng cg], .agg #[.int .i64 l.volt, .int .i64 l.lo, .int .i64 l.hi, .int .i64 l.circ, .int .i64 l.brk, .int .i64 l.ret], .int .i64 (s : Int), .int .i64 load] w fun e' w' => e' = .returned (.agg #[.int .i64 (outT m l s load).1, .int .i64 (outT m l s load).2]) ∧ Below w.heap.size w w' := by
 have HOU := Lib.hid (fun (W : World) (hbw : Below w.heap.size w W) => routput_any m l s load ab ag nb cb ng cg W (hb.below hbw) he)
 have hfr : frR (outQ m l s load) = outT m l s load := frR_of he
 have hvo := he.vo
 have hsm : smallQ (outQ m l s load) = true := smallQ_of (a := (outT m l s load).1) (b := (outT m l s load).2) hfr (by obtain ⟨a, b, c⟩ := hvo; omega) (by obtain ⟨a, b, c⟩ := hvo; omega)
 have HN := Lib.hid (show (outT m l s load).1 = (outQ m l s load).num ∧ (outT m l s load).2 = ((outQ m l s load).den : Int) from ⟨(congrArg Prod.fst hfr).symm, (congrArg Prod.snd hfr).symm⟩)
 have HSM := Lib.hid hsm
 generalize outQ m l s load = OQ at *
 obtain ⟨N, hN⟩ : ∃ N, N = (outT m l s load).1 := ⟨_, rfl⟩
 obtain ⟨D, hD⟩ : ∃ N, N = (outT m l s load).2 := ⟨_, rfl⟩
 rw [← hN, ← hD] at HN ⊢
 obtain ⟨st, hst⟩ : ∃ x, x = m.st := ⟨_, rfl⟩
 rw [← hst] at HOU ⊢
 clear hb he hst hfr hvo hsm hN hD
 obtain ⟨vo, lo, hi', ci, br, re⟩ := l
 simp only at HOU ⊢
 go_enter Tryz.func45, Tryz.ntmps45
 go_wp2_with fail
 obtain ⟨w1, hW⟩ : ∃ w1, w1 = ((w.alloc (Obj.cells #[.slice ab nb cb, .int .i64 st, .slice ag ng cg] 45)).alloc (Obj.cells #[.int .i64 vo, .int .i64 lo, .int .i64 hi', .int .i64 ci, .int .i64 br, .int .i64 re] 47)) := ⟨_, rfl⟩
 have hb1 : Below w.heap.size w w1 := by rw [hW]; (repeat' first | (with_reducible first | exact bw1 | assumption | refine bw2 ?_ _ | refine bw3 ?_ ?_ _ | refine bw4 ?_ | refine bw5 ?_ ?_ _ | refine bw6 (by assumption) ?_ ?_ | exact And.left (by assumption)) | go_size)
 have k4 : BlkR w1 w.heap.size (.cells #[.slice ab nb cb, .int .i64 st, .slice ag ng cg] 45) := by
  have hba : Below (w.alloc (Obj.cells #[.slice ab nb cb, .int .i64 st, .slice ag ng cg] 45)).heap.size (w.alloc (Obj.cells #[.slice ab nb cb, .int .i64 st, .slice ag ng cg] 45)) w1 := by rw [hW]; (repeat' first | (with_reducible first | exact bw1 | assumption | refine bw2 ?_ _ | refine bw3 ?_ ?_ _ | refine bw4 ?_ | refine bw5 ?_ ?_ _ | refine bw6 (by assumption) ?_ ?_ | exact And.left (by assumption)) | go_size)
  exact BlkR.below (w := w.alloc (Obj.cells #[.slice ab nb cb, .int .i64 st, .slice ag ng cg] 45)) (heap_alloc_new _ _) hba
 have k5 : BlkR w1 (w.heap.size + 1) (.cells #[.int .i64 vo, .int .i64 lo, .int .i64 hi', .int .i64 ci, .int .i64 br, .int .i64 re] 47) := by
  show w1.heap[w.heap.size + 1]? = _
  rw [hW]
  have := heap_alloc_new (w.alloc (Obj.cells #[.slice ab nb cb, .int .i64 st, .slice ag ng cg] 45)) (Obj.cells #[.int .i64 vo, .int .i64 lo, .int .i64 hi', .int .i64 ci, .int .i64 br, .int .i64 re] 47)
  simpa using this
 obtain ⟨X4, hX4⟩ : ∃ X, X = w.heap.size := ⟨_, rfl⟩
 obtain ⟨X5, hX5⟩ : ∃ X, X = w.heap.size + 1 := ⟨_, rfl⟩
 rw [← hX5] at k5
 rw [← hX4] at k4
 have K4 := Lib.hid k4
 have K5 := Lib.hid k5
 have HB1 := Lib.hid hb1
 clear k4 k5 hb1
 rw [← hW]
 obtain ⟨w2, hW2⟩ : ∃ w2, w2 = w1.alloc (Obj.cells #[.int .i64 0, .int .i64 0] 58) := ⟨_, rfl⟩
 rw [← hW2]
 have hb2 : Below w1.heap.size w1 w2 := by rw [hW2]; (repeat' first | (with_reducible first | exact bw1 | assumption | refine bw2 ?_ _ | refine bw3 ?_ ?_ _ | refine bw4 ?_ | refine bw5 ?_ ?_ _ | refine bw6 (by assumption) ?_ ?_ | exact And.left (by assumption)) | go_size)
 have hsz : w1.heap.size = w.heap.size + 1 + 1 := by rw [hW]; simp
 have k8 : BlkR w2 (w.heap.size + 1 + 1) (.cells #[.int .i64 0, .int .i64 0] 58) := by
  show w2.heap[w.heap.size + 1 + 1]? = _
  rw [hW2, ← hsz]
  exact heap_alloc_new _ _
 obtain ⟨X8, hX8⟩ : ∃ X, X = w.heap.size + 1 + 1 := ⟨_, rfl⟩
 rw [← hX8] at k8
 simp only [← hX8]
 simp only [← hX5]
 simp only [← hX4]
 have hx8 : w.heap.size ≤ X8 := by omega
 have K4 := Lib.hid (K4.out.below hb2)
 have K5 := Lib.hid (K5.out.below hb2)
 have HB := Lib.hid (HB1.out.trans (hb2.mono HB1.out.size))
 clear hX4 hX5 hX8 hW hW2 hb2 hsz HB1
 obtain ⟨q0, q1, q2, _⟩ := blkc3 K4.out
 obtain ⟨u0, u1, u2, u3, u4, u5, _⟩ := blkc6 K5.out
 have l4 := K4.out.lt
 have l5 := K5.out.lt
 go_wp2_with fail
 refine (HOU.out w2 HB.out).mono ?_
 rintro ex w3 ⟨s1, a1, n1, c1', t1, b1, m1, d1', rfl, hb3, hrb, _⟩
 go_wp2_with fail
 refine (rb_frac _ OQ w3 hrb).mono ?_
 rintro ey w4 ⟨rfl, hb4⟩
 rw [HSM.out, if_pos rfl, if_pos rfl, ← HN.out.1, ← HN.out.2]
 have hb34 := hb3.trans (hb4.mono hb3.size)
 have K8 := Lib.hid (k8.below hb34)
 have HB := Lib.hid (HB.out.trans (hb34.mono HB.out.size))
 clear q0 q1 q2 u0 u1 u2 u3 u4 u5 l4 l5
 clear hb3 hb4 hb34 k8 hrb K4 K5
 obtain ⟨d80, d81, _⟩ := blkc2 K8.out
 have f80 := blk_fz K8.out 0
 have f81 := blk_fz K8.out 1
 have l8 := K8.out.lt
 have hz := HB.out.size
 go_wp2
 refine bodyPost_ret (v := .agg #[.int .i64 N, .int .i64 D]) ?_ rfl ⟨rfl, Below.alloc ((HB.out.setCell hx8 _).setCell hx8 _) (by simpa using hz) _⟩
 have kx := blk_put2 K8.out (.int .i64 N) (.int .i64 D)
 have kw := (Below.heap_alloc _ (Obj.cells #[.int .i64 N, .int .i64 D] 58) _ (Array.getElem?_eq_some_iff.1 kx).1).trans kx
 generalize World.alloc _ _ = wz at *
 obtain ⟨e80, e81, _⟩ := blkc2 kw
 simp [results, Tryz.results45, go_sem, e80, e81]
set_option maxHeartbeats 1000000 in
set_option maxRecDepth 100000 in
theorem rcurrentsF_any (m : Mac) (l : Lim) (s : Nat) (load : Int) (ab ag : Option Addr) (nb cb ng cg : Nat) (w : World) (hb : BrR w ab nb m.br) (he : ElV m l s load) :
    Calls Tryz.prog 44 #[.agg #[.slice ab nb cb, .int .i64 m.st, .slice ag ng cg], .agg #[.int .i64 l.volt, .int .i64 l.lo, .int .i64 l.hi, .int .i64 l.circ, .int .i64 l.brk, .int .i64 l.ret], .int .i64 (s : Int), .int .i64 load] w fun e' w' => ∃ a' c', e' = .returned (.slice a' nb c') ∧ Below w.heap.size w w' ∧ PairsR w' a' nb (curT m l s load) := by
 have HCU := Lib.hid (fun (W : World) (hbw : Below w.heap.size w W) => rcurrents_any m l s load ab ag nb cb ng cg W (hb.below hbw) he)
 have hn6 : nb ≤ 6 := by rw [← hb.len]; exact he.hm.n1
 have hln : (curT m l s load).length = nb := by rw [curT_len]; exact hb.len
 have HQ := Lib.hid (fun (k : Nat) (hk : k < nb) => show smallQ (zQ m l s load k) = true ∧ (curT m l s load).take (k + 1) = (curT m l s load).take k ++ [((zQ m l s load k).num, ((zQ m l s load k).den : Int))] from by
  have hk' : k < m.br.length := by rw [hb.len]; exact hk
  have hz := frR_z he hk'
  obtain ⟨b1, b2, b3⟩ := curT_bd he hk'
  refine ⟨smallQ_of (a := ((curT m l s load).getD k (0, 0)).1) (b := ((curT m l s load).getD k (0, 0)).2) hz (by omega) (by omega), ?_⟩
  rw [List.take_add_one, List.getElem?_eq_getElem (by rw [hln]; exact hk)]
  have : (curT m l s load)[k]'(by rw [hln]; exact hk) = frR (zQ m l s load k) := by
   rw [hz, List.getD_eq_getElem?_getD, List.getElem?_eq_getElem (by rw [hln]; exact hk)]; rfl
  rw [this]; rfl)
 have HT := Lib.hid (show (curT m l s load).take nb = curT m l s load from by rw [← hln]; exact List.take_length)
 generalize curT m l s load = CT at *
 generalize zQ m l s load = ZQ at *
 obtain ⟨st, hst⟩ : ∃ x, x = m.st := ⟨_, rfl⟩
 rw [← hst] at HCU ⊢
 clear hb he hst hln
 obtain ⟨vo, lo, hi', ci, br, re⟩ := l
 simp only at HCU ⊢
 go_enter Tryz.func44, Tryz.ntmps44
 go_wp2_with fail
 obtain ⟨w1, hW⟩ : ∃ w1, w1 = ((w.alloc (Obj.cells #[.slice ab nb cb, .int .i64 st, .slice ag ng cg] 45)).alloc (Obj.cells #[.int .i64 vo, .int .i64 lo, .int .i64 hi', .int .i64 ci, .int .i64 br, .int .i64 re] 47)) := ⟨_, rfl⟩
 have hb1 : Below w.heap.size w w1 := by rw [hW]; (repeat' first | (with_reducible first | exact bw1 | assumption | refine bw2 ?_ _ | refine bw3 ?_ ?_ _ | refine bw4 ?_ | refine bw5 ?_ ?_ _ | refine bw6 (by assumption) ?_ ?_ | exact And.left (by assumption)) | go_size)
 have k4 : BlkR w1 w.heap.size (.cells #[.slice ab nb cb, .int .i64 st, .slice ag ng cg] 45) := by
  have hba : Below (w.alloc (Obj.cells #[.slice ab nb cb, .int .i64 st, .slice ag ng cg] 45)).heap.size (w.alloc (Obj.cells #[.slice ab nb cb, .int .i64 st, .slice ag ng cg] 45)) w1 := by rw [hW]; (repeat' first | (with_reducible first | exact bw1 | assumption | refine bw2 ?_ _ | refine bw3 ?_ ?_ _ | refine bw4 ?_ | refine bw5 ?_ ?_ _ | refine bw6 (by assumption) ?_ ?_ | exact And.left (by assumption)) | go_size)
  exact BlkR.below (w := w.alloc (Obj.cells #[.slice ab nb cb, .int .i64 st, .slice ag ng cg] 45)) (heap_alloc_new _ _) hba
 have k5 : BlkR w1 (w.heap.size + 1) (.cells #[.int .i64 vo, .int .i64 lo, .int .i64 hi', .int .i64 ci, .int .i64 br, .int .i64 re] 47) := by
  show w1.heap[w.heap.size + 1]? = _
  rw [hW]
  have := heap_alloc_new (w.alloc (Obj.cells #[.slice ab nb cb, .int .i64 st, .slice ag ng cg] 45)) (Obj.cells #[.int .i64 vo, .int .i64 lo, .int .i64 hi', .int .i64 ci, .int .i64 br, .int .i64 re] 47)
  simpa using this
 obtain ⟨X4, hX4⟩ : ∃ X, X = w.heap.size := ⟨_, rfl⟩
 obtain ⟨X5, hX5⟩ : ∃ X, X = w.heap.size + 1 := ⟨_, rfl⟩
 rw [← hX5] at k5
 rw [← hX4] at k4
 have K4 := Lib.hid k4
 have K5 := Lib.hid k5
 have HB1 := Lib.hid hb1
 clear k4 k5 hb1
 rw [← hW]
 simp only [← hX5]
 simp only [← hX4]
 clear hX4 hX5 hW
 obtain ⟨q0, q1, q2, _⟩ := blkc3 K4.out
 obtain ⟨u0, u1, u2, u3, u4, u5, _⟩ := blkc6 K5.out
 have l4 := K4.out.lt
 have l5 := K5.out.lt
 go_wp2_with fail
 refine (HCU.out w1 HB1.out).mono ?_
 rintro ex w2 ⟨A, g, cs, rfl, hb2, hg, hrow⟩
 have HB2 := Lib.hid (HB1.out.trans (hb2.mono HB1.out.size))
 have HROW := Lib.hid (fun (W : World) (h : Below w2.heap.size w2 W) => hrow.below h)
 clear q0 q1 q2 u0 u1 u2 u3 u4 u5 l4 l5
 clear hb2 hrow hg K4 K5 HB1
 go_wp2_with fail
 go_loopw [10, 11] (fun v x wr => ∃ (k : Nat) (av : Option Addr) (cv : Nat), v = .slice av k cv ∧ x = .int .i64 (k : Int) ∧ k ≤ nb ∧ Hid (wr.ownsRow w2.heap.size 58 2 (.slice av k cv) k (pcells (CT.take k))) ∧ Hid (Below w2.heap.size w2 wr)) (fun _ x _ => nb - (intOf x).toNat)
 case atStart => exact ⟨0, none, 0, rfl, rfl, Nat.zero_le _, Lib.hid (World.ownsRow_nil _ _ _ _), Lib.hid (Below.refl _ _)⟩
 case round =>
  obtain ⟨k, av, cv, rfl, rfl, hk, hO, hB⟩ := hrel
  have k0 : (0 : Int) ≤ (k : Int) := by omega
  have HRW := Lib.hid (HROW.out wr hB.out)
  by_cases hlt : k < nb
  ·have k1 : (k : Int) < (nb : Int) := by omega
   obtain ⟨s1, a1, n1, c1', t1, b1, m1, d1', g0, g1, g2, g3, hra⟩ := HRW.out.at hlt
   have lg := HRW.out.lt
   obtain ⟨hsm, htk⟩ := HQ.out k hlt
   obtain ⟨N, hN⟩ : ∃ N, N = (ZQ k).num := ⟨_, rfl⟩
   obtain ⟨D, hD⟩ : ∃ N : Int, N = ((ZQ k).den : Int) := ⟨_, rfl⟩
   have HND := Lib.hid (And.intro hN hD)
   rw [← hN, ← hD] at htk
   have HTK := Lib.hid (show pcells (CT.take (k + 1)) = pcells (CT.take k) ++ [.int .i64 N, .int .i64 D] by rw [htk, pcells_append]; rfl)
   have HSM := Lib.hid hsm
   clear hsm htk hN hD
   go_wp2_with fail
   refine (rb_frac _ (ZQ k) wr hra.rb).mono ?_
   rintro ey w4 ⟨rfl, hb4⟩
   rw [HSM.out, if_pos rfl, if_pos rfl, ← HND.out.1, ← HND.out.2]
   have HO4 := Lib.hid (owns_below hO.out hb4 (fun z hz => (hO.out.lt z hz).2))
   have HB4 := Lib.hid (hB.out.trans (hb4.mono hB.out.size))
   have hz4 := HB4.out.size
   clear hb4 hra g0 g1 g2 g3 lg
   go_wp2_with (at_builtin; refine wpList_append_sl _ rfl _ _ 53 rfl w2.heap.size 58 _ 2 16 Tryz.underlying53 infoFrac6 rfl (by omega) (.slice av k cv) k (pcells (CT.take k)) rfl (by have := HO4.out; (repeat' (first | (with_reducible assumption) | ((with_reducible refine owns_lit ?_ ?_ ?_ ?_) <;> first | (simp; done) | (simp; omega) | omega) | (with_reducible refine World.ownsRow.alloc ?_ _) | (with_reducible refine World.ownsRow.drew ?_) | (with_reducible refine owns_drewN ?_ _) | (with_reducible refine ownsRow_setCell_below ?_ ?_ _) | (simp; done) | (simp; omega) | omega))) _ 1 1 [.int .i64 N, .int .i64 D] rfl (SlR.lit _ _ _ _ _ 1 2 (by rfl) (by simp) rfl (by omega)) (by simp [Value.oneCell']) (by omega) (by omega) (by simp; omega) ?_)
   intro v2 w8 hown8 _ hb8
   obtain ⟨av2, cv2, rfl, _, _⟩ := owns_slice hown8
   rw [← HTK.out] at hown8
   have HO8 := Lib.hid hown8
   have HB8 := Lib.hid (show Below w2.heap.size w2 w8 from Below.trans (by have := HB4.out; (repeat' first | (with_reducible first | exact bw1 | assumption | refine bw2 ?_ _ | refine bw3 ?_ ?_ _ | refine bw4 ?_ | refine bw5 ?_ ?_ _ | refine bw6 (by assumption) ?_ ?_ | exact And.left (by assumption)) | go_size)) hb8)
   clear hown8 hb8 HO4 HB4
   go_wp2
   go_roundw
   case rel => exact ⟨k + 1, av2, cv2, rfl, by go_num, by omega, HO8, HB8⟩
   case measure => simp [intOf]; omega
  ·obtain rfl : nb = k := by omega
   have HR := Lib.hid (show PairsR wr av nb CT by rw [← HT.out]; exact SlR.of_owns hO.out)
   clear hO
   go_wp2
   go_ret
   exact ⟨av, cv, rfl, HB2.out.trans (hB.out.mono HB2.out.size), HR.out⟩
end Go.Proofs.YtidboecjllaofaaGreat
