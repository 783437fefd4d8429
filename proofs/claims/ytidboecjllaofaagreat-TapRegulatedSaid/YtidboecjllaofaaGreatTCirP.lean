import Derived.Test.YtidboecjllaofaaGreatMF
import Derived.Test.YtidboecjllaofaaGreatTOut
/- Currents over one denominator, the circulating current, what a contact breaks, and safe states and changes, in plain words. -/
namespace Go.Proofs.YtidboecjllaofaaGreat
set_option linter.unusedVariables false

theorem low_add {A B C E : Int} (hB : 0 < B) (hE : 0 < E) : low ((low A B).1 * (low C E).2 + (low C E).1 * (low A B).2) ((low A B).2 * (low C E).2) = low (A * E + C * B) (B * E) := by
  obtain ⟨e1, p1, _, _⟩ := low_props (a := A) hB
  obtain ⟨e2, p2, _, _⟩ := low_props (a := C) hE
  refine low_congr (Int.mul_pos p1 p2) (Int.mul_pos hB hE) ?_
  generalize (low A B).1 = x at *
  generalize (low A B).2 = y at *
  generalize (low C E).1 = z at *
  generalize (low C E).2 = t at *
  grind
theorem low_add' {A C M : Int} (hM : 0 < M) : low ((low A M).1 * (low C M).2 + (low C M).1 * (low A M).2) ((low A M).2 * (low C M).2) = low (A + C) M := by
  rw [low_add hM hM]
  refine low_congr (Int.mul_pos hM hM) hM ?_
  grind
theorem low_zero {M : Int} (h : 0 < M) : low 0 M = (0, 1) := by
  rw [← low_one' 0]
  exact low_congr h (by decide) (by simp)
/-- The common denominator of the currents, and each current over it. -/
def comD (m : Mac) (l : Lim) (s : Nat) (load : Int) : Int := 2520 * (outT m l s load).2
def zcur (m : Mac) (l : Lim) (s : Nat) (load : Int) (k : Nat) : Int :=
  if k ∈ cloU s 6 ∧ isRes m k = false then ovr m l (outT m l s load).1 (outT m l s load).2 k * (2520 / (bAt m.br k).res)
  else if (k : Int) = dirD m (cloU s 6) then rstZ m l load (outT m l s load).1 (outT m l s load).2 (cloU s 6) else 0
theorem dirD_cases (m : Mac) : ∀ L : List Nat, (dirD m L = -1 ∧ ∀ k ∈ L, isRes m k = false) ∨ ∃ d ∈ L, isRes m d = true ∧ dirD m L = (d : Int) := by
  refine snoc_ind (.inl ⟨rfl, by simp⟩) (fun L k ih => ?_)
  rw [dirD_snoc]
  by_cases hk : isRes m k = true
  · rw [if_pos hk]; exact .inr ⟨k, by simp, hk, rfl⟩
  · rw [if_neg hk]
    have hk' : isRes m k = false := by simpa using hk
    rcases ih with ⟨h1, h2⟩ | ⟨d, h1, h2, h3⟩
    · refine .inl ⟨h1, fun j hj => ?_⟩
      rcases List.mem_append.1 hj with h | h
      · exact h2 j h
      · simp at h; rw [h]; exact hk'
    · exact .inr ⟨d, List.mem_append_left _ h1, h2, h3⟩
theorem curA_z {m : Mac} {l : Lim} {N D : Int} {k : Nat} (hD : 0 < D) (hr : 1 ≤ (bAt m.br k).res) (hr1 : (bAt m.br k).res ≤ 10) : curA m l N D k = low (ovr m l N D k * (2520 / (bAt m.br k).res)) (2520 * D) := by
  unfold curA
  have e : 2520 = 2520 / (bAt m.br k).res * (bAt m.br k).res := by
    have : (bAt m.br k).res = 1 ∨ (bAt m.br k).res = 2 ∨ (bAt m.br k).res = 3 ∨ (bAt m.br k).res = 4 ∨ (bAt m.br k).res = 5 ∨ (bAt m.br k).res = 6 ∨ (bAt m.br k).res = 7 ∨ (bAt m.br k).res = 8 ∨ (bAt m.br k).res = 9 ∨ (bAt m.br k).res = 10 := by omega
    rcases this with h | h | h | h | h | h | h | h | h | h <;> rw [h] <;> decide
  refine low_congr (Int.mul_pos hD (by omega)) (by omega) ?_
  generalize 2520 / (bAt m.br k).res = q at *
  generalize (bAt m.br k).res = r at *
  generalize ovr m l N D k = y at *
  have e2 : 2520 * D = q * r * D := by rw [← e]
  grind
theorem curT_len (m : Mac) (l : Lim) (s : Nat) (load : Int) : (curT m l s load).length = m.br.length := by
  unfold curT
  split
  · exact curL_len ..
  · rw [List.length_set]; exact curL_len ..
theorem curL_get {m : Mac} {l : Lim} {N D : Int} {n k : Nat} {L : List Nat} (hk : k < n) : (curL m l N D n L).getD k (0, 0) = if k ∈ L ∧ isRes m k = false then curA m l N D k else (0, 1) := by
  unfold curL
  rw [List.getD_eq_getElem?_getD, List.getElem?_map, List.getElem?_range hk]
  rfl
/-- Where there is a contact without a resistance the output's voltage is whole. -/
theorem outT_dirD {m : Mac} {l : Lim} {s : Nat} {load : Int} (h : 0 ≤ dirD m (cloU s 6)) : (outT m l s load).2 = 1 := by
  rcases dirD_cases m (cloU s 6) with ⟨h1, _⟩ | ⟨d, h1, h2, h3⟩
  · omega
  · unfold outT
    cases hf : (cloU s 6).find? (isRes m) with
    | none => exact absurd h2 (List.find?_eq_none.1 hf d h1)
    | some k => rfl
/-- All that is asked of a machine, limits, a state and a load. -/
structure ElV (m : Mac) (l : Lim) (s : Nat) (load : Int) : Prop where
  hm : MacV m
  hl : 0 ≤ l.volt ∧ l.volt ≤ 1000
  hd : -1000 ≤ load ∧ load ≤ 1000
  hs : s < 2 ^ m.br.length
  h0 : s ≠ 0
theorem ElV.lt {m : Mac} {l : Lim} {s : Nat} {load : Int} (h : ElV m l s load) : ∀ k ∈ cloU s 6, k < m.br.length := fun k hk =>
  bits_lt m.br.length (by have := h.hm.n1; omega) s h.hs k (clo_mem hk).1 (clo_mem hk).2
theorem ElV.s64 {m : Mac} {l : Lim} {s : Nat} {load : Int} (h : ElV m l s load) : s < 64 := Nat.lt_of_lt_of_le h.hs (Nat.le_trans (Nat.pow_le_pow_right (by omega) h.hm.n1) (by decide))
theorem ElV.vo {m : Mac} {l : Lim} {s : Nat} {load : Int} (h : ElV m l s load) : VoB (outT m l s load).1 (outT m l s load).2 := outT_bd h.hm h.hl h.hd h.lt (clo_ne s h.s64 h.h0)
theorem ElV.com {m : Mac} {l : Lim} {s : Nat} {load : Int} (h : ElV m l s load) : 0 < comD m l s load ∧ comD m l s load ≤ 38102400 := by
  obtain ⟨a, b, _⟩ := h.vo
  unfold comD
  omega
theorem curT_z {m : Mac} {l : Lim} {s : Nat} {load : Int} (h : ElV m l s load) {k : Nat} (hk : k < m.br.length) : (curT m l s load).getD k (0, 0) = low (zcur m l s load k) (comD m l s load) := by
  have hD := h.vo.1
  obtain ⟨_, r0, r1⟩ := h.hm.br k hk
  have key : ∀ N D, 0 < D → (curL m l N D m.br.length (cloU s 6)).getD k (0, 0) = low (if k ∈ cloU s 6 ∧ isRes m k = false then ovr m l N D k * (2520 / (bAt m.br k).res) else 0) (2520 * D) := by
    intro N D hD
    rw [curL_get hk]
    split
    · rename_i hh
      have : (bAt m.br k).res ≠ 0 := by have := hh.2; unfold isRes at this; simpa using this
      exact curA_z hD (by omega) r1
    · exact (low_zero (by omega)).symm
  unfold curT zcur comD
  rcases dirD_cases m (cloU s 6) with ⟨h1, h2⟩ | ⟨d, h1, h2, h3⟩
  · rw [if_pos (by omega), key _ _ hD]
    split
    · rfl
    · rw [if_neg (by omega)]
  · rw [h3, if_neg (by omega)]
    by_cases hkd : k = d
    · subst hkd
      rw [if_neg (by rw [h2]; simp), if_pos rfl]
      rw [List.getD_eq_getElem?_getD, Int.toNat_natCast, List.getElem?_set_self (by rw [curL_len]; exact hk)]
      rfl
    · rw [if_neg (show ¬ (k : Int) = (d : Int) by omega)]
      rw [List.getD_eq_getElem?_getD, Int.toNat_natCast, List.getElem?_set_ne (by omega), ← List.getD_eq_getElem?_getD, key _ _ hD]
theorem zcur_bd {m : Mac} {l : Lim} {s : Nat} {load : Int} (h : ElV m l s load) {k : Nat} (hk : k < m.br.length) : (zcur m l s load k).natAbs ≤ 800150400000 := by
  obtain ⟨d0, d1, _⟩ := h.vo
  obtain ⟨_, r0, r1⟩ := h.hm.br k hk
  unfold zcur
  split
  · rename_i hh
    have : (bAt m.br k).res ≠ 0 := by have := hh.2; unfold isRes at this; simpa using this
    obtain ⟨o, _⟩ := ovr_bd h.hm h.hl hk h.vo
    obtain ⟨q0, q1⟩ := div_res (r := (bAt m.br k).res) (by omega) r1
    have h2 := mulB o (show (2520 / (bAt m.br k).res).natAbs ≤ 2520 by omega)
    have : 21000 * (outT m l s load).2.natAbs * 2520 ≤ 21000 * 15120 * 2520 := by omega
    omega
  · split
    · rename_i hh
      have h1 := outT_dirD (l := l) (load := load) (show 0 ≤ dirD m (cloU s 6) by omega)
      have hb := rst_bd (load := load) h.hm h.hl h.hd h.vo (cloU s 6) h.lt
      have hl := cloU_len s 6
      rw [h1] at hb ⊢
      have : (1000 + 21000 * (cloU s 6).length) * (2520 * (1 : Int).natAbs) ≤ 127000 * 2520 := Nat.mul_le_mul (by omega) (by decide)
      omega
    · omega
theorem curT_bd {m : Mac} {l : Lim} {s : Nat} {load : Int} (h : ElV m l s load) {k : Nat} (hk : k < m.br.length) : ((curT m l s load).getD k (0, 0)).1.natAbs ≤ 320040000 ∧ 0 < ((curT m l s load).getD k (0, 0)).2 ∧ ((curT m l s load).getD k (0, 0)).2 ≤ 151200 := by
  have hD := h.vo
  obtain ⟨_, r0, r1⟩ := h.hm.br k hk
  have key : ((curL m l (outT m l s load).1 (outT m l s load).2 m.br.length (cloU s 6)).getD k (0, 0)).1.natAbs ≤ 320040000 ∧ 0 < ((curL m l (outT m l s load).1 (outT m l s load).2 m.br.length (cloU s 6)).getD k (0, 0)).2 ∧ ((curL m l (outT m l s load).1 (outT m l s load).2 m.br.length (cloU s 6)).getD k (0, 0)).2 ≤ 151200 := by
    rw [curL_get hk]
    split
    · rename_i hh
      have : (bAt m.br k).res ≠ 0 := by have := hh.2; unfold isRes at this; simpa using this
      obtain ⟨a, b, c⟩ := cur_bd h.hm h.hl hk hD (by omega) r1
      omega
    · decide
  unfold curT
  split
  · exact key
  · rename_i hh
    by_cases hkd : k = (dirD m (cloU s 6)).toNat
    · rw [List.getD_eq_getElem?_getD, hkd, List.getElem?_set_self (by rw [curL_len]; omega)]
      have h1 := outT_dirD (l := l) (load := load) (show 0 ≤ dirD m (cloU s 6) by omega)
      have hb := rst_bd (load := load) h.hm h.hl h.hd hD (cloU s 6) h.lt
      have hl := cloU_len s 6
      have hp := low_props (a := rstZ m l load (outT m l s load).1 (outT m l s load).2 (cloU s 6)) (b := 2520 * (outT m l s load).2) (by have := hD.1; omega)
      show ((rstA m l load (outT m l s load).1 (outT m l s load).2 (cloU s 6)).1.natAbs ≤ _) ∧ _
      unfold rstA
      rw [h1] at hb hp ⊢
      obtain ⟨_, p1, p2, p3⟩ := hp
      have : (1000 + 21000 * (cloU s 6).length) * (2520 * (1 : Int).natAbs) ≤ 127000 * 2520 := Nat.mul_le_mul (by omega) (by decide)
      refine ⟨by omega, p1, ?_⟩
      show (low (rstZ m l load (outT m l s load).1 1 (cloU s 6)) (2520 * 1)).2 ≤ 151200
      omega
    · rw [List.getD_eq_getElem?_getD, List.getElem?_set_ne (by omega), ← List.getD_eq_getElem?_getD]
      exact key
/-- The sum over the contacts of the tap 1, before the n-th one. -/
def cirZ (m : Mac) (l : Lim) (s : Nat) : Nat → Int
  | 0 => 0
  | k + 1 => if (bAt m.br k).tap = 1 then cirZ m l s k + zcur m l s 0 k else cirZ m l s k
def cirF (m : Mac) (l : Lim) (s k : Nat) : Int × Int := low (cirZ m l s k) (comD m l s 0)
def cirA (m : Mac) (l : Lim) (s : Nat) : Int × Int := (sz (cirF m l s m.br.length).1, (cirF m l s m.br.length).2)
theorem cirZ_bd {m : Mac} {l : Lim} {s B : Nat} (hz : ∀ k, k < m.br.length → (zcur m l s 0 k).natAbs ≤ B) : ∀ k, k ≤ m.br.length → (cirZ m l s k).natAbs ≤ k * B
  | 0, _ => by simp [cirZ]
  | k + 1, hk => by
    have ih := cirZ_bd hz k (by omega)
    have := hz k (by omega)
    have e : (k + 1) * B = k * B + B := Nat.succ_mul ..
    have e2 : cirZ m l s (k + 1) = if (bAt m.br k).tap = 1 then cirZ m l s k + zcur m l s 0 k else cirZ m l s k := rfl
    rw [e, e2]
    generalize k * B = B at *
    split
    · omega
    · omega
theorem cirF_bd {m : Mac} {l : Lim} {s : Nat} (h : ElV m l s 0) {k : Nat} (hk : k ≤ m.br.length) : (cirF m l s k).1.natAbs ≤ 4800902400000 ∧ 0 < (cirF m l s k).2 ∧ (cirF m l s k).2 ≤ 38102400 := by
  obtain ⟨c0, c1⟩ := h.com
  obtain ⟨_, p, q, r⟩ := low_props (a := cirZ m l s k) c0
  have hb := cirZ_bd (fun j hj => zcur_bd h hj) k hk
  have h6 := h.hm.n1
  have h7 : k * 800150400000 ≤ 6 * 800150400000 := Nat.mul_le_mul_right _ (by omega)
  have hb := Nat.le_trans hb h7
  clear h7
  unfold cirF
  omega
theorem cirF_zero {m : Mac} {l : Lim} {s : Nat} (h : ElV m l s 0) : cirF m l s 0 = (0, 1) := low_zero h.com.1
theorem cirF_skip {m : Mac} {l : Lim} {s k : Nat} (h : (bAt m.br k).tap ≠ 1) : cirF m l s (k + 1) = cirF m l s k := by
  unfold cirF
  rw [show cirZ m l s (k + 1) = cirZ m l s k from if_neg h]
theorem cirF_plus {m : Mac} {l : Lim} {s k : Nat} (h : ElV m l s 0) (hk : k < m.br.length) (ht : (bAt m.br k).tap = 1) :
    low ((cirF m l s k).1 * ((curT m l s 0).getD k (0, 0)).2 + ((curT m l s 0).getD k (0, 0)).1 * (cirF m l s k).2) ((cirF m l s k).2 * ((curT m l s 0).getD k (0, 0)).2) = cirF m l s (k + 1) := by
  rw [curT_z h hk]
  unfold cirF
  rw [low_add' h.com.1, show cirZ m l s (k + 1) = cirZ m l s k + zcur m l s 0 k from if_pos ht]
theorem prod_safe {a b c d : Int} (ha : a.natAbs ≤ 4839004800000) (hb : 0 < b ∧ b ≤ 38102400) (hc : c.natAbs ≤ 320040000) (hd : 0 < d ∧ d ≤ 151200) :
    (-4000000000000000000 ≤ a * d ∧ a * d ≤ 4000000000000000000) ∧ (-4000000000000000000 ≤ c * b ∧ c * b ≤ 4000000000000000000) ∧ 0 < b * d ∧ b * d ≤ 9000000000000000000 := by
  have h1 := mulB ha (show d.natAbs ≤ 151200 by omega)
  have h2 := mulB hc (show b.natAbs ≤ 38102400 by omega)
  have h3 := mulB (show b.natAbs ≤ 38102400 by omega) (show d.natAbs ≤ 151200 by omega)
  have h4 := Int.mul_pos hb.1 hd.1
  generalize a * d = x at *
  generalize c * b = y at *
  generalize b * d = z at *
  omega
/-- A safe state; what a contact breaks; a safe change. -/
def safE (m : Mac) (l : Lim) (s : Nat) : Int := if curE m s ≠ 0 then curE m s else if l.circ * (cirA m l s).2 < (cirA m l s).1 then 22 else 0
def brkC (m : Mac) (l : Lim) (s i : Nat) (load : Int) : Int × Int := (sz ((curT m l s load).getD i (0, 0)).1, ((curT m l s load).getD i (0, 0)).2)
def brkW (m : Mac) (l : Lim) (s i : Nat) (load : Int) : Int × Int := low (volA m l i * (outT m l s load).2 - (outT m l s load).1 * 1) (1 * (outT m l s load).2)
def brkV (m : Mac) (l : Lim) (s i : Nat) (load : Int) : Int × Int := (sz (brkW m l (trn s i) i load).1, (brkW m l (trn s i) i load).2)
def lodE (m : Mac) (l : Lim) (s i : Nat) (load : Int) : Int := if l.brk * (brkC m l s i load).2 < (brkC m l s i load).1 then 22 else if l.ret * (brkV m l s i load).2 < (brkV m l s i load).1 then 24 else 0
def chgE (m : Mac) (l : Lim) (s i : Nat) : Int :=
  if mayB m s i = false then 18 else if curE m s ≠ 0 then curE m s else if safE m l (trn s i) ≠ 0 then safE m l (trn s i)
  else if s.testBit i = false then 0 else if lodE m l s i l.lo ≠ 0 then lodE m l s i l.lo else lodE m l s i l.hi
end Go.Proofs.YtidboecjllaofaaGreat
