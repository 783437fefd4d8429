import Derived.Test.YtdjinmieogpgcaaGreatMTDir
/- The currents of the contacts, in plain words. -/
namespace Go.Proofs.YtdjinmieogpgcaaGreat
set_option linter.unusedVariables false
def frR (q : Rat) : Int × Int := (q.num, (q.den : Int))
theorem low_rat {a b : Int} (hb : 0 < b) : low a b = frR (Rat.divInt a b) := by
 unfold low frR
 rw [rat_num hb, rat_den hb]
 have hg : (Int.gcd a b : Int) ∣ a := Int.gcd_dvd_left ..
 unfold gc
 obtain ⟨z, hz⟩ := hg
 have h0 := gcd_le_y (x := a) hb
 generalize (Int.gcd a b : Int) = g at *
 subst hz
 rw [Int.mul_tdiv_cancel_left _ (by omega), Int.mul_ediv_cancel_left _ (by omega)]
theorem low_congr {a b c d : Int} (hb : 0 < b) (hd : 0 < d) (h : a * d = c * b) : low a b = low c d := by
 rw [low_rat hb, low_rat hd, (Rat.divInt_eq_divInt_iff (by omega) (by omega)).2 h]
theorem low_props {a b : Int} (hb : 0 < b) : (low a b).1 * b = a * (low a b).2 ∧ 0 < (low a b).2 ∧ (low a b).2 ≤ b ∧ (low a b).1.natAbs ≤ a.natAbs := by
 have hg : gc a b ∣ a := by unfold gc; exact Int.gcd_dvd_left ..
 have hg' : gc a b ∣ b := by unfold gc; exact Int.gcd_dvd_right ..
 have h1 := gc_pos (a := a) hb
 unfold low
 generalize gc a b = g at *
 obtain ⟨z, rfl⟩ := hg
 obtain ⟨y, rfl⟩ := hg'
 simp only [Int.mul_tdiv_cancel_left _ (show g ≠ 0 by omega), Int.mul_ediv_cancel_left _ (show g ≠ 0 by omega)]
 have hy : 0 < y := by
  rcases Int.lt_or_le 0 y with h | h
  ·exact h
  ·have := Int.mul_nonneg (show (0 : Int) ≤ g by omega) (show 0 ≤ -y by omega)
   rw [Int.mul_neg] at this
   omega
 refine ⟨by rw [← Int.mul_assoc, Int.mul_comm z g], hy, ?_, ?_⟩
 ·have := Int.mul_le_mul_of_nonneg_right h1 (show 0 ≤ y by omega)
  omega
 ·rw [Int.natAbs_mul]
  exact Nat.le_mul_of_pos_left _ (by omega)
theorem low_sub {A B C E : Int} (hB : 0 < B) (hE : 0 < E) : low ((low A B).1 * (low C E).2 - (low C E).1 * (low A B).2) ((low A B).2 * (low C E).2) = low (A * E - C * B) (B * E) := by
 obtain ⟨e1, p1, _, _⟩ := low_props (a := A) hB
 obtain ⟨e2, p2, _, _⟩ := low_props (a := C) hE
 refine low_congr (Int.mul_pos p1 p2) (Int.mul_pos hB hE) ?_
 generalize (low A B).1 = x at *
 generalize (low A B).2 = y at *
 generalize (low C E).1 = z at *
 generalize (low C E).2 = t at *
 grind
theorem low_one' (v : Int) : low v 1 = (v, 1) := by
 unfold low gc
 have : Int.gcd v 1 = 1 := by simp
 rw [this]
 simp
def ovr (m : Mac) (l : Lim) (N D : Int) (k : Nat) : Int := volA m l k * D - N
def curA (m : Mac) (l : Lim) (N D : Int) (k : Nat) : Int × Int := low (ovr m l N D k) (D * (bAt m.br k).res)
def rstZ (m : Mac) (l : Lim) (load N D : Int) (L : List Nat) : Int := L.foldl (fun a k => if isRes m k then a else a - ovr m l N D k * (2520 / (bAt m.br k).res)) (load * (2520 * D))
def rstA (m : Mac) (l : Lim) (load N D : Int) (L : List Nat) : Int × Int := low (rstZ m l load N D L) (2520 * D)
def dirD (m : Mac) (L : List Nat) : Int := L.foldl (fun d k => if isRes m k then (k : Int) else d) (-1)
def curL (m : Mac) (l : Lim) (N D : Int) (n : Nat) (L : List Nat) : List (Int × Int) := (List.range n).map fun k => if k ∈ L ∧ isRes m k = false then curA m l N D k else (0, 1)
theorem rstZ_snoc (m : Mac) (l : Lim) (load N D : Int) (L : List Nat) (k : Nat) : rstZ m l load N D (L ++ [k]) = if isRes m k then rstZ m l load N D L else rstZ m l load N D L - ovr m l N D k * (2520 / (bAt m.br k).res) := by
 unfold rstZ; rw [List.foldl_append]; rfl
theorem rstA_nil {m : Mac} {l : Lim} {load N D : Int} (hD : 0 < D) : rstA m l load N D [] = (load, 1) := by
 unfold rstA rstZ
 rw [List.foldl_nil, ← low_one' load]
 exact low_congr (by omega) (by decide) (by rw [Int.mul_one])
theorem dirD_snoc (m : Mac) (L : List Nat) (k : Nat) : dirD m (L ++ [k]) = if isRes m k then (k : Int) else dirD m L := by unfold dirD; rw [List.foldl_append]; rfl
theorem dirD_lt {m : Mac} {s n : Nat} (hL : ∀ k ∈ cloU s 6, k < n) (h : 0 ≤ dirD m (cloU s 6)) : dirD m (cloU s 6) < (n : Int) := by
 have key : ∀ L : List Nat, (∀ k ∈ L, k < n) → dirD m L < (n : Int) ∨ dirD m L = -1 := by
  refine snoc_ind (fun _ => .inr rfl) (fun L k ih hL => ?_)
  rw [dirD_snoc]
  have hk := hL k (by simp)
  split
  ·left; omega
  ·exact ih (fun j hj => hL j (List.mem_append_left _ hj))
 rcases key _ hL with h1 | h1
 ·exact h1
 ·omega
theorem curL_len (m : Mac) (l : Lim) (N D : Int) (n : Nat) (L : List Nat) : (curL m l N D n L).length = n := by unfold curL; simp
theorem curL_nil (m : Mac) (l : Lim) (N D : Int) (n : Nat) : curL m l N D n [] = List.replicate n (0, 1) := by
 unfold curL
 apply List.ext_getElem (by simp)
 intro i h1 h2
 simp
theorem curL_res {m : Mac} (l : Lim) (N D : Int) (n : Nat) (L : List Nat) {k : Nat} (h : isRes m k = true) : curL m l N D n (L ++ [k]) = curL m l N D n L := by
 unfold curL
 refine List.map_congr_left fun j _ => ?_
 by_cases hj : j = k
 ·subst hj; simp [h]
 ·simp [hj]
theorem curL_set {m : Mac} (l : Lim) (N D : Int) (n : Nat) (L : List Nat) {k : Nat} (h : isRes m k = false) : curL m l N D n (L ++ [k]) = (curL m l N D n L).set k (curA m l N D k) := by
 apply List.ext_getElem (by simp [curL_len])
 intro i h1 h2
 rw [List.getElem_set]
 unfold curL
 simp only [List.getElem_map, List.getElem_range]
 by_cases hj : k = i
 ·subst hj; simp [h]
 ·simp [hj, Ne.symm hj]
theorem cur_over {m : Mac} {l : Lim} {N D : Int} {k : Nat} (hD : 0 < D) (hr : 0 < (bAt m.br k).res) :
    low (low (volA m l k * D - N * 1) (1 * D)).1 ((low (volA m l k * D - N * 1) (1 * D)).2 * (bAt m.br k).res) = curA m l N D k := by
 rw [Int.mul_one, Int.one_mul]
 obtain ⟨e, p, _, _⟩ := low_props (a := volA m l k * D - N) hD
 unfold curA ovr
 refine low_congr (Int.mul_pos p hr) (Int.mul_pos hD hr) ?_
 rw [← Int.mul_assoc, e, Int.mul_assoc]
theorem cur_rest {m : Mac} {l : Lim} {load N D : Int} {L : List Nat} {k : Nat} (hD : 0 < D) (hr : 1 ≤ (bAt m.br k).res) (hr1 : (bAt m.br k).res ≤ 10) (hk : isRes m k = false) :
    low ((rstA m l load N D L).1 * (curA m l N D k).2 - (curA m l N D k).1 * (rstA m l load N D L).2) ((rstA m l load N D L).2 * (curA m l N D k).2) = rstA m l load N D (L ++ [k]) := by
 unfold rstA curA
 have hDr : 0 < D * (bAt m.br k).res := Int.mul_pos hD (by omega)
 rw [low_sub (by omega) hDr, rstZ_snoc, if_neg (by rw [hk]; decide)]
 have e : 2520 = 2520 / (bAt m.br k).res * (bAt m.br k).res := by
  have : (bAt m.br k).res = 1 ∨ (bAt m.br k).res = 2 ∨ (bAt m.br k).res = 3 ∨ (bAt m.br k).res = 4 ∨ (bAt m.br k).res = 5 ∨ (bAt m.br k).res = 6 ∨ (bAt m.br k).res = 7 ∨ (bAt m.br k).res = 8 ∨ (bAt m.br k).res = 9 ∨ (bAt m.br k).res = 10 := by omega
  rcases this with h | h | h | h | h | h | h | h | h | h <;> rw [h] <;> decide
 refine low_congr (Int.mul_pos (by omega) hDr) (by omega) ?_
 generalize 2520 / (bAt m.br k).res = q at *
 generalize (bAt m.br k).res = r at *
 generalize rstZ m l load N D L = Z at *
 generalize ovr m l N D k = y at *
 have e2 : 2520 * D = q * r * D := by rw [← e]
 grind
theorem mulB {a b : Int} {A B : Nat} (ha : a.natAbs ≤ A) (hb : b.natAbs ≤ B) : (a * b).natAbs ≤ A * B := by rw [Int.natAbs_mul]; exact Nat.mul_le_mul ha hb
def VoB (N D : Int) : Prop := 0 < D ∧ D ≤ 15120 ∧ N.natAbs ≤ 20000 * D.natAbs
theorem outT_bd {m : Mac} {l : Lim} {load : Int} {s : Nat} (hm : MacV m) (hl : 0 ≤ l.volt ∧ l.volt ≤ 1000) (hd : -1000 ≤ load ∧ load ≤ 1000) (hlt : ∀ k ∈ cloU s 6, k < m.br.length) (hne : 0 < (cloU s 6).length) : VoB (outT m l s load).1 (outT m l s load).2 := by
 unfold outT
 split
 ·rename_i k hk
  have hk2 := List.mem_of_find?_eq_some hk
  obtain ⟨v0, v1⟩ := vol_bd hm hl (hlt k hk2)
  refine ⟨show (0 : Int) < 1 by decide, show (1 : Int) ≤ 15120 by decide, ?_⟩
  simp only
  omega
 ·rename_i hk
  have hno := List.find?_eq_none.1 hk
  obtain ⟨⟨a0, a1⟩, b0, b1⟩ := sums_bd hm hl hd (cloU s 6) (fun k hk => ⟨hlt k hk, by
   have := hno k hk
   unfold isRes at this
   simpa using this⟩)
  have hlen := cloU_len s 6
  generalize numL m l load (cloU s 6) = A at *
  generalize denL m (cloU s 6) = B at *
  obtain ⟨e, p, q, r⟩ := low_props (a := A) (b := B) (by omega)
  generalize (low A B).1 = N at *
  generalize (low A B).2 = D at *
  refine ⟨p, by omega, ?_⟩
  have hA : A.natAbs ≤ 20000 * B.natAbs := by omega
  have h1 : N.natAbs * B.natAbs = A.natAbs * D.natAbs := by rw [← Int.natAbs_mul, e, Int.natAbs_mul]
  have h2 : N.natAbs * B.natAbs ≤ 20000 * D.natAbs * B.natAbs := by
   rw [h1]
   calc A.natAbs * D.natAbs ≤ 20000 * B.natAbs * D.natAbs := Nat.mul_le_mul_right _ hA
    _ = 20000 * D.natAbs * B.natAbs := by rw [Nat.mul_assoc, Nat.mul_comm B.natAbs, ← Nat.mul_assoc]
  exact Nat.le_of_mul_le_mul_right h2 (by omega)
theorem ovr_bd {m : Mac} {l : Lim} {N D : Int} {k : Nat} (hm : MacV m) (hl : 0 ≤ l.volt ∧ l.volt ≤ 1000) (hk : k < m.br.length) (h : VoB N D) : (ovr m l N D k).natAbs ≤ 21000 * D.natAbs ∧ (0 ≤ volA m l k * D ∧ volA m l k * D ≤ 15120000) := by
 obtain ⟨d0, d1, hn⟩ := h
 obtain ⟨v0, v1⟩ := vol_bd hm hl hk
 unfold ovr
 generalize volA m l k = v at *
 have h1 : (v * D).natAbs ≤ 1000 * D.natAbs := by rw [Int.natAbs_mul]; exact Nat.mul_le_mul_right _ (by omega)
 have h2 := Int.mul_nonneg v0 (Int.le_of_lt d0)
 generalize v * D = x at *
 omega
theorem cur_bd {m : Mac} {l : Lim} {N D : Int} {k : Nat} (hm : MacV m) (hl : 0 ≤ l.volt ∧ l.volt ≤ 1000) (hk : k < m.br.length) (h : VoB N D) (hr : 1 ≤ (bAt m.br k).res) (hr1 : (bAt m.br k).res ≤ 10) :
    (curA m l N D k).1.natAbs ≤ 317520000 ∧ 0 < (curA m l N D k).2 ∧ (curA m l N D k).2 ≤ 151200 := by
 obtain ⟨o, _⟩ := ovr_bd hm hl hk h
 obtain ⟨d0, d1, _⟩ := h
 have hD : D * (bAt m.br k).res ≤ 15120 * 10 := Int.mul_le_mul d1 hr1 (by omega) (by decide)
 obtain ⟨_, p, q, r⟩ := low_props (a := ovr m l N D k) (b := D * (bAt m.br k).res) (Int.mul_pos d0 (by omega))
 unfold curA
 omega
theorem rst_bd {m : Mac} {l : Lim} {load N D : Int} (hm : MacV m) (hl : 0 ≤ l.volt ∧ l.volt ≤ 1000) (hd : -1000 ≤ load ∧ load ≤ 1000) (h : VoB N D) : ∀ L : List Nat, (∀ k ∈ L, k < m.br.length) → (rstZ m l load N D L).natAbs ≤ (1000 + 21000 * L.length) * (2520 * D.natAbs) := by
 refine snoc_ind ?_ ?_
 ·intro _
  unfold rstZ
  simp only [List.foldl_nil, List.length_nil]
  rw [Int.natAbs_mul, Int.natAbs_mul]
  exact Nat.mul_le_mul_right _ (by omega)
 ·intro L k ih hL
  have ih := ih (fun j hj => hL j (List.mem_append_left _ hj))
  have hk := hL k (by simp)
  rw [rstZ_snoc, List.length_append, List.length_singleton]
  have e : (1000 + 21000 * (L.length + 1)) * (2520 * D.natAbs) = (1000 + 21000 * L.length) * (2520 * D.natAbs) + 21000 * (2520 * D.natAbs) := by rw [← Nat.add_mul, show 1000 + 21000 * (L.length + 1) = 1000 + 21000 * L.length + 21000 by omega]
  rw [e]
  split
  ·omega
  ·rename_i hr
   have hr' : (bAt m.br k).res ≠ 0 := by unfold isRes at hr; simpa using hr
   obtain ⟨_, r0, r1⟩ := hm.br k hk
   obtain ⟨q0, q1⟩ := div_res (r := (bAt m.br k).res) (by omega) r1
   obtain ⟨o, _⟩ := ovr_bd hm hl hk h
   have h2 := mulB o (show (2520 / (bAt m.br k).res).natAbs ≤ 2520 by omega)
   have e2 : 21000 * D.natAbs * 2520 = 21000 * (2520 * D.natAbs) := by rw [Nat.mul_assoc, Nat.mul_comm D.natAbs]
   omega
theorem rstA_bd {m : Mac} {l : Lim} {load N D : Int} (hm : MacV m) (hl : 0 ≤ l.volt ∧ l.volt ≤ 1000) (hd : -1000 ≤ load ∧ load ≤ 1000) (h : VoB N D) (L : List Nat) (hL : ∀ k ∈ L, k < m.br.length) (h6 : L.length ≤ 6) :
    (rstA m l load N D L).1.natAbs ≤ 4839004800000 ∧ 0 < (rstA m l load N D L).2 ∧ (rstA m l load N D L).2 ≤ 38102400 := by
 have hb := rst_bd (load := load) hm hl hd h L hL
 obtain ⟨d0, d1, _⟩ := h
 obtain ⟨_, p, q, r⟩ := low_props (a := rstZ m l load N D L) (b := 2520 * D) (by omega)
 have h2 : (1000 + 21000 * L.length) * (2520 * D.natAbs) ≤ 127000 * 38102400 := Nat.mul_le_mul (by omega) (by omega)
 unfold rstA
 omega
theorem cur_safe {a b c d : Int} (ha : a.natAbs ≤ 4839004800000) (hb : 0 < b ∧ b ≤ 38102400) (hc : c.natAbs ≤ 317520000) (hd : 0 < d ∧ d ≤ 151200) :
    (-4000000000000000000 ≤ a * d ∧ a * d ≤ 4000000000000000000) ∧ (-4000000000000000000 ≤ c * b ∧ c * b ≤ 4000000000000000000) ∧ 0 < b * d ∧ b * d ≤ 9000000000000000000 := by
 have h1 := mulB ha (show d.natAbs ≤ 151200 by omega)
 have h2 := mulB hc (show b.natAbs ≤ 38102400 by omega)
 have h3 := mulB (show b.natAbs ≤ 38102400 by omega) (show d.natAbs ≤ 151200 by omega)
 have h4 := Int.mul_pos hb.1 hd.1
 generalize a * d = x at *
 generalize c * b = y at *
 generalize b * d = z at *
 omega
theorem cloU_len' (s i : Nat) (h : i ≤ 6) : (cloU s i).length ≤ 6 := Nat.le_trans (cloU_len s i) h
def curT (m : Mac) (l : Lim) (s : Nat) (load : Int) : List (Int × Int) :=
 if dirD m (cloU s 6) < 0 then curL m l (outT m l s load).1 (outT m l s load).2 m.br.length (cloU s 6)
 else (curL m l (outT m l s load).1 (outT m l s load).2 m.br.length (cloU s 6)).set (dirD m (cloU s 6)).toNat (rstA m l load (outT m l s load).1 (outT m l s load).2 (cloU s 6))
end Go.Proofs.YtdjinmieogpgcaaGreat
