import Derived.Shelf.Sort.Plain
import Derived.Sort.OwnSortedInts
import Derived.Deep.CutRange
import Derived.Test.YtdjinmieogpgcaaGreatTCurP
import Derived.Test.YtdjinmieogpgcaaGreatTOut
/- Currents over one denominator, the circulating current, what a contact breaks, and safe states and changes, in plain words. -/
namespace Go.Proofs.YtdjinmieogpgcaaGreat
set_option linter.unusedVariables false
theorem low_add {A B C E : Int} (hB : 0 < B) (hE : 0 < E) : low ((low A B).1 * (low C E).2 + (low C E).1 * (low A B).2) ((low A B).2 * (low C E).2) = low (A * E + C * B) (B * E) := by
 obtain ⟨e1, p1, _, _⟩ := low_props (a := A) hB
 obtain ⟨e2, p2, _, _⟩ := low_props (a := C) hE
 refine low_congr (Int.mul_pos p1 p2) (Int.mul_pos hB hE) ?_
 generalize (low A B).1 = x at *
 generalize (low A B).2 = y at *
 generalize (low C E).1 = z at *
 generalize (low C E).2 = t at *
 grind
theorem low_add' {A C M : Int} (hM : 0 < M) : low ((low A M).1 * (low C M).2 + (low C M).1 * (low A M).2) ((low A M).2 * (low C M).2) = low (A + C) M := by
 rw [low_add hM hM]
 refine low_congr (Int.mul_pos hM hM) hM ?_
 grind
theorem low_zero {M : Int} (h : 0 < M) : low 0 M = (0, 1) := by
 rw [← low_one' 0]
 exact low_congr h (by decide) (by simp)
def comD (m : Mac) (l : Lim) (s : Nat) (load : Int) : Int := 2520 * (outT m l s load).2
def zcur (m : Mac) (l : Lim) (s : Nat) (load : Int) (k : Nat) : Int :=
 if k ∈ cloU s 6 ∧ isRes m k = false then ovr m l (outT m l s load).1 (outT m l s load).2 k * (2520 / (bAt m.br k).res)
 else if (k : Int) = dirD m (cloU s 6) then rstZ m l load (outT m l s load).1 (outT m l s load).2 (cloU s 6) else 0
theorem dirD_cases (m : Mac) : ∀ L : List Nat, (dirD m L = -1 ∧ ∀ k ∈ L, isRes m k = false) ∨ ∃ d ∈ L, isRes m d = true ∧ dirD m L = (d : Int) := by
 refine snoc_ind (.inl ⟨rfl, by simp⟩) (fun L k ih => ?_)
 rw [dirD_snoc]
 by_cases hk : isRes m k = true
 ·rw [if_pos hk]; exact .inr ⟨k, by simp, hk, rfl⟩
 ·rw [if_neg hk]
  have hk' : isRes m k = false := by simpa using hk
  rcases ih with ⟨h1, h2⟩ | ⟨d, h1, h2, h3⟩
  ·refine .inl ⟨h1, fun j hj => ?_⟩
   rcases List.mem_append.1 hj with h | h
   ·exact h2 j h
   ·simp at h; rw [h]; exact hk'
  ·exact .inr ⟨d, List.mem_append_left _ h1, h2, h3⟩
theorem curA_z {m : Mac} {l : Lim} {N D : Int} {k : Nat} (hD : 0 < D) (hr : 1 ≤ (bAt m.br k).res) (hr1 : (bAt m.br k).res ≤ 10) : curA m l N D k = low (ovr m l N D k * (2520 / (bAt m.br k).res)) (2520 * D) := by
 unfold curA
 have e : 2520 = 2520 / (bAt m.br k).res * (bAt m.br k).res := by
  have : (bAt m.br k).res = 1 ∨ (bAt m.br k).res = 2 ∨ (bAt m.br k).res = 3 ∨ (bAt m.br k).res = 4 ∨ (bAt m.br k).res = 5 ∨ (bAt m.br k).res = 6 ∨ (bAt m.br k).res = 7 ∨ (bAt m.br k).res = 8 ∨ (bAt m.br k).res = 9 ∨ (bAt m.br k).res = 10 := by omega
  rcases this with h | h | h | h | h | h | h | h | h | h <;> rw [h] <;> decide
 refine low_congr (Int.mul_pos hD (by omega)) (by omega) ?_
 generalize 2520 / (bAt m.br k).res = q at *
 generalize (bAt m.br k).res = r at *
 generalize ovr m l N D k = y at *
 have e2 : 2520 * D = q * r * D := by rw [← e]
 grind
theorem curT_len (m : Mac) (l : Lim) (s : Nat) (load : Int) : (curT m l s load).length = m.br.length := by
 unfold curT
 split
 ·exact curL_len ..
 ·rw [List.length_set]; exact curL_len ..
theorem curL_get {m : Mac} {l : Lim} {N D : Int} {n k : Nat} {L : List Nat} (hk : k < n) : (curL m l N D n L).getD k (0, 0) = if k ∈ L ∧ isRes m k = false then curA m l N D k else (0, 1) := by
 unfold curL
 rw [List.getD_eq_getElem?_getD, List.getElem?_map, List.getElem?_range hk]
 rfl
theorem outT_dirD {m : Mac} {l : Lim} {s : Nat} {load : Int} (h : 0 ≤ dirD m (cloU s 6)) : (outT m l s load).2 = 1 := by
 rcases dirD_cases m (cloU s 6) with ⟨h1, _⟩ | ⟨d, h1, h2, h3⟩
 ·omega
 ·unfold outT
  cases hf : (cloU s 6).find? (isRes m) with
  | none => exact absurd h2 (List.find?_eq_none.1 hf d h1)
  | some k => rfl
structure ElV (m : Mac) (l : Lim) (s : Nat) (load : Int) : Prop where
 hm : MacV m
 hl : 0 ≤ l.volt ∧ l.volt ≤ 1000
 hd : -1000 ≤ load ∧ load ≤ 1000
 hs : s < 2 ^ m.br.length
 h0 : s ≠ 0
theorem ElV.lt {m : Mac} {l : Lim} {s : Nat} {load : Int} (h : ElV m l s load) : ∀ k ∈ cloU s 6, k < m.br.length := fun k hk =>
 bits_lt m.br.length (by have := h.hm.n1; omega) s h.hs k (clo_mem hk).1 (clo_mem hk).2
theorem ElV.s64 {m : Mac} {l : Lim} {s : Nat} {load : Int} (h : ElV m l s load) : s < 64 := Nat.lt_of_lt_of_le h.hs (Nat.le_trans (Nat.pow_le_pow_right (by omega) h.hm.n1) (by decide))
theorem ElV.vo {m : Mac} {l : Lim} {s : Nat} {load : Int} (h : ElV m l s load) : VoB (outT m l s load).1 (outT m l s load).2 := outT_bd h.hm h.hl h.hd h.lt (clo_ne s h.s64 h.h0)
theorem ElV.com {m : Mac} {l : Lim} {s : Nat} {load : Int} (h : ElV m l s load) : 0 < comD m l s load ∧ comD m l s load ≤ 38102400 := by
 obtain ⟨a, b, _⟩ := h.vo
 unfold comD
 omega
theorem curT_z {m : Mac} {l : Lim} {s : Nat} {load : Int} (h : ElV m l s load) {k : Nat} (hk : k < m.br.length) : (curT m l s load).getD k (0, 0) = low (zcur m l s load k) (comD m l s load) := by
 have hD := h.vo.1
 obtain ⟨_, r0, r1⟩ := h.hm.br k hk
 have key : ∀ N D, 0 < D → (curL m l N D m.br.length (cloU s 6)).getD k (0, 0) = low (if k ∈ cloU s 6 ∧ isRes m k = false then ovr m l N D k * (2520 / (bAt m.br k).res) else 0) (2520 * D) := by
  intro N D hD
  rw [curL_get hk]
  split
  ·rename_i hh
   have : (bAt m.br k).res ≠ 0 := by have := hh.2; unfold isRes at this; simpa using this
   exact curA_z hD (by omega) r1
  ·exact (low_zero (by omega)).symm
 unfold curT zcur comD
 rcases dirD_cases m (cloU s 6) with ⟨h1, h2⟩ | ⟨d, h1, h2, h3⟩
 ·rw [if_pos (by omega), key _ _ hD]
  split
  ·rfl
  ·rw [if_neg (by omega)]
 ·rw [h3, if_neg (by omega)]
  by_cases hkd : k = d
  ·subst hkd
   rw [if_neg (by rw [h2]; simp), if_pos rfl]
   rw [List.getD_eq_getElem?_getD, Int.toNat_natCast, List.getElem?_set_self (by rw [curL_len]; exact hk)]
   rfl
  ·rw [if_neg (show ¬ (k : Int) = (d : Int) by omega)]
   rw [List.getD_eq_getElem?_getD, Int.toNat_natCast, List.getElem?_set_ne (by omega), ← List.getD_eq_getElem?_getD, key _ _ hD]
theorem zcur_bd {m : Mac} {l : Lim} {s : Nat} {load : Int} (h : ElV m l s load) {k : Nat} (hk : k < m.br.length) : (zcur m l s load k).natAbs ≤ 800150400000 := by
 obtain ⟨d0, d1, _⟩ := h.vo
 obtain ⟨_, r0, r1⟩ := h.hm.br k hk
 unfold zcur
 split
 ·rename_i hh
  have : (bAt m.br k).res ≠ 0 := by have := hh.2; unfold isRes at this; simpa using this
  obtain ⟨o, _⟩ := ovr_bd h.hm h.hl hk h.vo
  obtain ⟨q0, q1⟩ := div_res (r := (bAt m.br k).res) (by omega) r1
  have h2 := mulB o (show (2520 / (bAt m.br k).res).natAbs ≤ 2520 by omega)
  have : 21000 * (outT m l s load).2.natAbs * 2520 ≤ 21000 * 15120 * 2520 := by omega
  omega
 ·split
  ·rename_i hh
   have h1 := outT_dirD (l := l) (load := load) (show 0 ≤ dirD m (cloU s 6) by omega)
   have hb := rst_bd (load := load) h.hm h.hl h.hd h.vo (cloU s 6) h.lt
   have hl := cloU_len s 6
   rw [h1] at hb ⊢
   have : (1000 + 21000 * (cloU s 6).length) * (2520 * (1 : Int).natAbs) ≤ 127000 * 2520 := Nat.mul_le_mul (by omega) (by decide)
   omega
  ·omega
theorem curT_bd {m : Mac} {l : Lim} {s : Nat} {load : Int} (h : ElV m l s load) {k : Nat} (hk : k < m.br.length) : ((curT m l s load).getD k (0, 0)).1.natAbs ≤ 320040000 ∧ 0 < ((curT m l s load).getD k (0, 0)).2 ∧ ((curT m l s load).getD k (0, 0)).2 ≤ 151200 := by
 have hD := h.vo
 obtain ⟨_, r0, r1⟩ := h.hm.br k hk
 have key : ((curL m l (outT m l s load).1 (outT m l s load).2 m.br.length (cloU s 6)).getD k (0, 0)).1.natAbs ≤ 320040000 ∧ 0 < ((curL m l (outT m l s load).1 (outT m l s load).2 m.br.length (cloU s 6)).getD k (0, 0)).2 ∧ ((curL m l (outT m l s load).1 (outT m l s load).2 m.br.length (cloU s 6)).getD k (0, 0)).2 ≤ 151200 := by
  rw [curL_get hk]
  split
  ·rename_i hh
   have : (bAt m.br k).res ≠ 0 := by have := hh.2; unfold isRes at this; simpa using this
   obtain ⟨a, b, c⟩ := cur_bd h.hm h.hl hk hD (by omega) r1
   omega
  ·decide
 unfold curT
 split
 ·exact key
 ·rename_i hh
  by_cases hkd : k = (dirD m (cloU s 6)).toNat
  ·rw [List.getD_eq_getElem?_getD, hkd, List.getElem?_set_self (by rw [curL_len]; omega)]
   have h1 := outT_dirD (l := l) (load := load) (show 0 ≤ dirD m (cloU s 6) by omega)
   have hb := rst_bd (load := load) h.hm h.hl h.hd hD (cloU s 6) h.lt
   have hl := cloU_len s 6
   have hp := low_props (a := rstZ m l load (outT m l s load).1 (outT m l s load).2 (cloU s 6)) (b := 2520 * (outT m l s load).2) (by have := hD.1; omega)
   show ((rstA m l load (outT m l s load).1 (outT m l s load).2 (cloU s 6)).1.natAbs ≤ _) ∧ _
   unfold rstA
   rw [h1] at hb hp ⊢
   obtain ⟨_, p1, p2, p3⟩ := hp
   have : (1000 + 21000 * (cloU s 6).length) * (2520 * (1 : Int).natAbs) ≤ 127000 * 2520 := Nat.mul_le_mul (by omega) (by decide)
   refine ⟨by omega, p1, ?_⟩
   show (low (rstZ m l load (outT m l s load).1 1 (cloU s 6)) (2520 * 1)).2 ≤ 151200
   omega
  ·rw [List.getD_eq_getElem?_getD, List.getElem?_set_ne (by omega), ← List.getD_eq_getElem?_getD]
   exact key
def cirZ (m : Mac) (l : Lim) (s : Nat) : Nat → Int
 | 0 => 0
 | k + 1 => if (bAt m.br k).tap = 1 then cirZ m l s k + zcur m l s 0 k else cirZ m l s k
def cirF (m : Mac) (l : Lim) (s k : Nat) : Int × Int := low (cirZ m l s k) (comD m l s 0)
def cirA (m : Mac) (l : Lim) (s : Nat) : Int × Int := (sz (cirF m l s m.br.length).1, (cirF m l s m.br.length).2)
theorem cirZ_bd {m : Mac} {l : Lim} {s B : Nat} (hz : ∀ k, k < m.br.length → (zcur m l s 0 k).natAbs ≤ B) : ∀ k, k ≤ m.br.length → (cirZ m l s k).natAbs ≤ k * B
 | 0, _ => by simp [cirZ]
 | k + 1, hk => by
  have ih := cirZ_bd hz k (by omega)
  have := hz k (by omega)
  have e : (k + 1) * B = k * B + B := Nat.succ_mul ..
  have e2 : cirZ m l s (k + 1) = if (bAt m.br k).tap = 1 then cirZ m l s k + zcur m l s 0 k else cirZ m l s k := rfl
  rw [e, e2]
  generalize k * B = B at *
  split
  ·omega
  ·omega
theorem cirF_bd {m : Mac} {l : Lim} {s : Nat} (h : ElV m l s 0) {k : Nat} (hk : k ≤ m.br.length) : (cirF m l s k).1.natAbs ≤ 4800902400000 ∧ 0 < (cirF m l s k).2 ∧ (cirF m l s k).2 ≤ 38102400 := by
 obtain ⟨c0, c1⟩ := h.com
 obtain ⟨_, p, q, r⟩ := low_props (a := cirZ m l s k) c0
 have hb := cirZ_bd (fun j hj => zcur_bd h hj) k hk
 have h6 := h.hm.n1
 have h7 : k * 800150400000 ≤ 6 * 800150400000 := Nat.mul_le_mul_right _ (by omega)
 have hb := Nat.le_trans hb h7
 clear h7
 unfold cirF
 omega
theorem cirF_zero {m : Mac} {l : Lim} {s : Nat} (h : ElV m l s 0) : cirF m l s 0 = (0, 1) := low_zero h.com.1
theorem cirF_skip {m : Mac} {l : Lim} {s k : Nat} (h : (bAt m.br k).tap ≠ 1) : cirF m l s (k + 1) = cirF m l s k := by
 unfold cirF
 rw [show cirZ m l s (k + 1) = cirZ m l s k from if_neg h]
theorem cirF_plus {m : Mac} {l : Lim} {s k : Nat} (h : ElV m l s 0) (hk : k < m.br.length) (ht : (bAt m.br k).tap = 1) :
    low ((cirF m l s k).1 * ((curT m l s 0).getD k (0, 0)).2 + ((curT m l s 0).getD k (0, 0)).1 * (cirF m l s k).2) ((cirF m l s k).2 * ((curT m l s 0).getD k (0, 0)).2) = cirF m l s (k + 1) := by
 rw [curT_z h hk]
 unfold cirF
 rw [low_add' h.com.1, show cirZ m l s (k + 1) = cirZ m l s k + zcur m l s 0 k from if_pos ht]
theorem prod_safe {a b c d : Int} (ha : a.natAbs ≤ 4839004800000) (hb : 0 < b ∧ b ≤ 38102400) (hc : c.natAbs ≤ 320040000) (hd : 0 < d ∧ d ≤ 151200) :
    (-4000000000000000000 ≤ a * d ∧ a * d ≤ 4000000000000000000) ∧ (-4000000000000000000 ≤ c * b ∧ c * b ≤ 4000000000000000000) ∧ 0 < b * d ∧ b * d ≤ 9000000000000000000 := by
 have h1 := mulB ha (show d.natAbs ≤ 151200 by omega)
 have h2 := mulB hc (show b.natAbs ≤ 38102400 by omega)
 have h3 := mulB (show b.natAbs ≤ 38102400 by omega) (show d.natAbs ≤ 151200 by omega)
 have h4 := Int.mul_pos hb.1 hd.1
 generalize a * d = x at *
 generalize c * b = y at *
 generalize b * d = z at *
 omega
def safE (m : Mac) (l : Lim) (s : Nat) : Int := if curE m s ≠ 0 then curE m s else if l.circ * (cirA m l s).2 < (cirA m l s).1 then 22 else 0
def brkC (m : Mac) (l : Lim) (s i : Nat) (load : Int) : Int × Int := (sz ((curT m l s load).getD i (0, 0)).1, ((curT m l s load).getD i (0, 0)).2)
def brkW (m : Mac) (l : Lim) (s i : Nat) (load : Int) : Int × Int := low (volA m l i * (outT m l s load).2 - (outT m l s load).1 * 1) (1 * (outT m l s load).2)
def brkV (m : Mac) (l : Lim) (s i : Nat) (load : Int) : Int × Int := (sz (brkW m l (trn s i) i load).1, (brkW m l (trn s i) i load).2)
def lodE (m : Mac) (l : Lim) (s i : Nat) (load : Int) : Int := if l.brk * (brkC m l s i load).2 < (brkC m l s i load).1 then 22 else if l.ret * (brkV m l s i load).2 < (brkV m l s i load).1 then 24 else 0
def chgE (m : Mac) (l : Lim) (s i : Nat) : Int :=
 if mayB m s i = false then 18 else if curE m s ≠ 0 then curE m s else if safE m l (trn s i) ≠ 0 then safE m l (trn s i)
 else if s.testBit i = false then 0 else if lodE m l s i l.lo ≠ 0 then lodE m l s i l.lo else lodE m l s i l.hi
/- Going from state to state until one comes again: orbits, the last move, and when it rests. No program in sight. -/
theorem pigeon : ∀ (N T : Nat) (g : Nat → Nat), (∀ i, i < T → g i < N) → (∀ i j, i < j → j < T → g i ≠ g j) → T ≤ N
 | 0, T, g, h, _ => by
  rcases Nat.eq_zero_or_pos T with h0 | h0
  ·omega
  ·exact absurd (h 0 h0) (Nat.not_lt_zero _)
 | N + 1, T, g, h, hi => by
  by_cases hx : ∃ k, k < T ∧ g k = N
  ·obtain ⟨k, hk, hg⟩ := hx
   have := pigeon N (T - 1) (fun i => if i < k then g i else g (i + 1)) (fun i hiT => by
    show (if i < k then g i else g (i + 1)) < N
    split
    ·next hlt =>
     have h1 := h i (by omega)
     have h2 := hi i k hlt hk
     omega
    ·next hlt =>
     have h1 := h (i + 1) (by omega)
     have h2 := hi k (i + 1) (by omega) (by omega)
     omega) (fun i j hij hj => by
    show (if i < k then g i else g (i + 1)) ≠ (if j < k then g j else g (j + 1))
    split
    ·next h1 =>
     split
     ·exact hi i j hij (by omega)
     ·exact hi i (j + 1) (by omega) (by omega)
    ·next h1 =>
     rw [if_neg (by omega)]
     exact hi (i + 1) (j + 1) (by omega) (by omega))
   omega
  ·exact Nat.le_succ_of_le (pigeon N T g (fun i hiT => by
     have h1 := h i hiT
     have h2 : g i ≠ N := fun e => hx ⟨i, hiT, e⟩
     omega) hi)
section
variable {S : Type}
def itr (f : S → S) (s : S) : Nat → S
 | 0 => s
 | k + 1 => f (itr f s k)
theorem itr_inv {f : S → S} {p : S → Prop} (hp : ∀ s, p s → p (f s)) {s : S} (h : p s) : ∀ k, p (itr f s k)
 | 0 => h
 | k + 1 => hp _ (itr_inv hp h k)
def lastM (f : S → S) (mv : S → Bool) (s : S) : Nat → Nat
 | 0 => 0
 | k + 1 => if mv (itr f s k) = true then k + 1 else lastM f mv s k
theorem lastM_le (f : S → S) (mv : S → Bool) (s : S) : ∀ k, lastM f mv s k ≤ k
 | 0 => Nat.le_refl _
 | k + 1 => by
  unfold lastM
  split
  ·exact Nat.le_refl _
  ·exact Nat.le_succ_of_le (lastM_le f mv s k)
structure Rep (f : S → S) (s : S) (T fr : Nat) : Prop where
 lt : fr < T
 eq : itr f s fr = itr f s T
 inj : ∀ i j, i < j → j < T → itr f s i ≠ itr f s j
theorem Rep.uniq {f : S → S} {s : S} {T fr T' fr' : Nat} (h : Rep f s T fr) (h' : Rep f s T' fr') : T = T' ∧ fr = fr' := by
 have e : T = T' := by
  rcases Nat.lt_trichotomy T T' with h1 | h1 | h1
  ·exact absurd h.eq (h'.inj _ _ h.lt h1)
  ·exact h1
  ·exact absurd h'.eq (h.inj _ _ h'.lt h1)
 subst e
 refine ⟨rfl, ?_⟩
 rcases Nat.lt_trichotomy fr fr' with h1 | h1 | h1
 ·exact absurd (h.eq.trans h'.eq.symm) (h.inj _ _ h1 h'.lt)
 ·exact h1
 ·exact absurd (h'.eq.trans h.eq.symm) (h.inj _ _ h1 h.lt)
theorem rep_bound {f : S → S} {s : S} {N : Nat} {p : S → Prop} (code : S → Nat) (hp : ∀ s, p s → p (f s)) (hs : p s) (hc : ∀ s, p s → code s < N) (hi : ∀ a b, p a → p b → code a = code b → a = b)
    {T : Nat} (h : ∀ i j, i < j → j < T → itr f s i ≠ itr f s j) : T ≤ N :=
 pigeon N T (fun i => code (itr f s i)) (fun i _ => hc _ (itr_inv hp hs i)) (fun i j h1 h2 e => h i j h1 h2 (hi _ _ (itr_inv hp hs i) (itr_inv hp hs j) e))
end
end Go.Proofs.YtdjinmieogpgcaaGreat
/- All states that runs reach, in the order in which they are found, with a run to each; the first failure. In plain words. -/
namespace Go.Proofs.YtdjinmieogpgcaaGreat
set_option linter.unusedVariables false
def reaIn (o : List Nat) (s : Nat) (L : List Nat) : List Nat := L.foldl (fun o c => if trn s c ∈ o then o else o ++ [trn s c]) o
theorem reaIn_snoc (o : List Nat) (s : Nat) (L : List Nat) (c : Nat) : reaIn o s (L ++ [c]) = if trn s c ∈ reaIn o s L then reaIn o s L else reaIn o s L ++ [trn s c] := by unfold reaIn; rw [List.foldl_append]; rfl
theorem reaIn_yes {o : List Nat} {s : Nat} {L : List Nat} {c : Nat} (h : trn s c ∈ reaIn o s L) : reaIn o s (L ++ [c]) = reaIn o s L := by rw [reaIn_snoc, if_pos h]
theorem reaIn_no {o : List Nat} {s : Nat} {L : List Nat} {c : Nat} (h : trn s c ∉ reaIn o s L) : reaIn o s (L ++ [c]) = reaIn o s L ++ [trn s c] := by rw [reaIn_snoc, if_neg h]
def reaF (m : Mac) : Nat → List Nat
 | 0 => [m.st.toNat]
 | k + 1 => match (reaF m k)[k]? with
  | some s => reaIn (reaF m k) s (movL m s)
  | none => reaF m k
def faiIn (o : List (Nat × List Nat)) (s : Nat) (r : List Nat) (L : List Nat) : List (Nat × List Nat) := L.foldl (fun o c => if trn s c ∈ o.map Prod.fst then o else o ++ [(trn s c, r ++ [c])]) o
theorem faiIn_snoc (o : List (Nat × List Nat)) (s : Nat) (r L : List Nat) (c : Nat) : faiIn o s r (L ++ [c]) = if trn s c ∈ (faiIn o s r L).map Prod.fst then faiIn o s r L else faiIn o s r L ++ [(trn s c, r ++ [c])] := by unfold faiIn; rw [List.foldl_append]; rfl
theorem faiIn_yes {o : List (Nat × List Nat)} {s : Nat} {r L : List Nat} {c : Nat} (h : trn s c ∈ (faiIn o s r L).map Prod.fst) : faiIn o s r (L ++ [c]) = faiIn o s r L := by rw [faiIn_snoc, if_pos h]
theorem faiIn_no {o : List (Nat × List Nat)} {s : Nat} {r L : List Nat} {c : Nat} (h : trn s c ∉ (faiIn o s r L).map Prod.fst) : faiIn o s r (L ++ [c]) = faiIn o s r L ++ [(trn s c, r ++ [c])] := by rw [faiIn_snoc, if_neg h]
theorem faiIn_keys (o : List (Nat × List Nat)) (s : Nat) (r : List Nat) : ∀ L : List Nat, (faiIn o s r L).map Prod.fst = reaIn (o.map Prod.fst) s L := by
 refine snoc_ind rfl (fun L c ih => ?_)
 rw [faiIn_snoc, reaIn_snoc, ← ih]
 split
 ·rfl
 ·rw [List.map_append]; rfl
def faiF (m : Mac) : Nat → List (Nat × List Nat)
 | 0 => [(m.st.toNat, [])]
 | k + 1 => match (faiF m k)[k]? with
  | some p => faiIn (faiF m k) p.1 p.2 (movL m p.1)
  | none => faiF m k
theorem faiF_keys (m : Mac) : ∀ k, (faiF m k).map Prod.fst = reaF m k
 | 0 => rfl
 | k + 1 => by
  have ih := faiF_keys m k
  show (match (faiF m k)[k]? with | some p => faiIn (faiF m k) p.1 p.2 (movL m p.1) | none => faiF m k).map Prod.fst = (match (reaF m k)[k]? with | some s => reaIn (reaF m k) s (movL m s) | none => reaF m k)
  rw [← ih, List.getElem?_map]
  cases (faiF m k)[k]? with
  | none => rfl
  | some p => exact faiIn_keys ..
theorem movL_lt {m : Mac} {s c : Nat} (h : c ∈ movL m s) : c < m.br.length := by
 unfold movL at h
 exact List.mem_range.1 (List.mem_filter.1 h).1
theorem movL_may {m : Mac} {s c : Nat} (h : c ∈ movL m s) : mayB m s c = true := by
 unfold movL at h
 exact (List.mem_filter.1 h).2
theorem trn_lt' {n s i : Nat} (hn : n ≤ 6) (hs : s < 2 ^ n) (hi : i < n) : trn s i < 2 ^ n := turn_lt n (by omega) s hs i hi
structure Rea (m : Mac) (o : List Nat) : Prop where
 nd : o.Nodup
 lt : ∀ s ∈ o, s < 2 ^ m.br.length
 st : m.st.toNat ∈ o
theorem Rea.len {m : Mac} {o : List Nat} (h : Rea m o) (hm : MacV m) : o.length ≤ 64 := by
 have h3 := pigeon (2 ^ m.br.length) o.length (fun i => o.getD i 0) (fun i hi => by
  show o.getD i 0 < _
  rw [List.getD_eq_getElem?_getD, List.getElem?_eq_getElem hi]
  exact h.lt _ (List.getElem_mem hi)) (fun i j hij hj => by
  show o.getD i 0 ≠ o.getD j 0
  rw [List.getD_eq_getElem?_getD, List.getD_eq_getElem?_getD, List.getElem?_eq_getElem hj, List.getElem?_eq_getElem (show i < o.length by omega)]
  exact List.pairwise_iff_getElem.1 h.nd i j (by omega) hj hij)
 exact Nat.le_trans h3 (Nat.le_trans (Nat.pow_le_pow_right (by omega) hm.n1) (by decide))
theorem Rea.snoc {m : Mac} {o : List Nat} {t : Nat} (h : Rea m o) (ht : t ∉ o) (hl : t < 2 ^ m.br.length) : Rea m (o ++ [t]) :=
 ⟨List.nodup_append.2 ⟨h.nd, by simp, fun a ha b hb => by simp at hb; subst hb; rintro rfl; exact ht ha⟩, fun s hs => by
  rcases List.mem_append.1 hs with h1 | h1
  ·exact h.lt s h1
  ·simp at h1; subst h1; exact hl, List.mem_append_left _ h.st⟩
theorem Rea.inn {m : Mac} {o : List Nat} {s : Nat} (hm : MacV m) (h : Rea m o) (hs : s < 2 ^ m.br.length) : ∀ L : List Nat, (∀ c ∈ L, c < m.br.length) → Rea m (reaIn o s L) := by
 refine snoc_ind (fun _ => h) (fun L c ih hL => ?_)
 have ih := ih (fun c hc => hL c (List.mem_append_left _ hc))
 rw [reaIn_snoc]
 split
 ·exact ih
 ·rename_i hn
  exact ih.snoc hn (trn_lt' hm.n1 hs (hL c (by simp)))
theorem reaF_ok {m : Mac} (hm : MacV m) : ∀ k, Rea m (reaF m k)
 | 0 => by
  obtain ⟨s0, s1⟩ := hm.st
  refine ⟨by simp [reaF], fun s hs => ?_, by simp [reaF]⟩
  simp [reaF] at hs
  subst hs
  have : ((2 ^ m.br.length : Nat) : Int) = (2 : Int) ^ m.br.length := by push_cast; rfl
  omega
 | k + 1 => by
  have ih := reaF_ok hm k
  show Rea m (match (reaF m k)[k]? with | some s => reaIn (reaF m k) s (movL m s) | none => reaF m k)
  cases h : (reaF m k)[k]? with
  | none => exact ih
  | some s => exact Rea.inn hm ih (ih.lt s (List.mem_of_getElem? h)) _ (fun c hc => movL_lt hc)
theorem reaF_next {m : Mac} {k s : Nat} (h : (reaF m k)[k]? = some s) : reaF m (k + 1) = reaIn (reaF m k) s (movL m s) := by
 show (match (reaF m k)[k]? with | some s => reaIn (reaF m k) s (movL m s) | none => reaF m k) = _
 rw [h]
theorem faiF_next {m : Mac} {k : Nat} {p : Nat × List Nat} (h : (faiF m k)[k]? = some p) : faiF m (k + 1) = faiIn (faiF m k) p.1 p.2 (movL m p.1) := by
 show (match (faiF m k)[k]? with | some p => faiIn (faiF m k) p.1 p.2 (movL m p.1) | none => faiF m k) = _
 rw [h]
theorem reaF_stop {m : Mac} {k : Nat} (h : (reaF m k).length ≤ k) : ∀ j, reaF m (k + j) = reaF m k
 | 0 => rfl
 | j + 1 => by
  have ih := reaF_stop h j
  show (match (reaF m (k + j))[k + j]? with | some s => reaIn (reaF m (k + j)) s (movL m s) | none => reaF m (k + j)) = _
  rw [ih, List.getElem?_eq_none (by omega)]
def reaA (m : Mac) : List Nat := reaF m 64
theorem reaF_all {m : Mac} (hm : MacV m) {k : Nat} (h : (reaF m k).length ≤ k) (hk : k ≤ 64) : reaF m k = reaA m := by
 have := reaF_stop h (64 - k)
 rw [show k + (64 - k) = 64 by omega] at this
 exact this.symm
def reaS (m : Mac) : List Nat := (List.range (2 ^ m.br.length)).filter (fun s => decide (s ∈ reaA m))
def badC (m : Mac) (l : Lim) (s : Nat) : Option Nat := (movL m s).find? (fun c => decide (chgE m l s c ≠ 0))
def faiK (m : Mac) (l : Lim) (k : Nat) : Option (List Nat) :=
 match (faiF m k)[k]? with
 | some p => (badC m l p.1).map (fun c => p.2 ++ [c])
 | none => none
def faiFrom (m : Mac) (l : Lim) : Nat → Nat → Option (List Nat)
 | 0, _ => none
 | j + 1, k => match faiK m l k with
  | some r => some r
  | none => faiFrom m l j (k + 1)
def faiV (m : Mac) (l : Lim) : Option (List Nat) := if safE m l m.st.toNat ≠ 0 then some [] else faiFrom m l 64 0
theorem faiFrom_none {m : Mac} {l : Lim} {k : Nat} (h : (faiF m k).length ≤ k) : ∀ j i, faiFrom m l j (k + i) = none
 | 0, _ => rfl
 | j + 1, i => by
  have h1 : (reaF m k).length ≤ k := by rw [← faiF_keys, List.length_map]; exact h
  have h2 : (faiF m (k + i)).length ≤ k := by
   have := congrArg List.length (reaF_stop h1 i)
   rw [← faiF_keys, ← faiF_keys, List.length_map, List.length_map] at this
   omega
  show (match faiK m l (k + i) with | some r => some r | none => faiFrom m l j (k + i + 1)) = none
  have h3 : faiK m l (k + i) = none := by
   unfold faiK
   rw [List.getElem?_eq_none (by omega)]
  rw [h3]
  exact faiFrom_none h j (i + 1)
theorem faiFrom_step {m : Mac} {l : Lim} {k : Nat} (hk : k < 64) (h : faiK m l k = none) : faiFrom m l (64 - k) k = faiFrom m l (64 - (k + 1)) (k + 1) := by
 rw [show 64 - k = (64 - (k + 1)) + 1 by omega]
 show (match faiK m l k with | some r => some r | none => faiFrom m l (64 - (k + 1)) (k + 1)) = _
 rw [h]
theorem faiFrom_found {m : Mac} {l : Lim} {k : Nat} {r : List Nat} (hk : k < 64) (h : faiK m l k = some r) : faiFrom m l (64 - k) k = some r := by
 rw [show 64 - k = (64 - (k + 1)) + 1 by omega]
 show (match faiK m l k with | some r => some r | none => faiFrom m l (64 - (k + 1)) (k + 1)) = _
 rw [h]
theorem faiIn_run {o : List (Nat × List Nat)} {s : Nat} {r : List Nat} {q : Nat} (hr : r.length + 1 ≤ q) (ho : ∀ p ∈ o, p.2.length ≤ q) : ∀ L : List Nat, ∀ p ∈ faiIn o s r L, p.2.length ≤ q := by
 refine snoc_ind ho (fun L c ih => ?_)
 rw [faiIn_snoc]
 split
 ·exact ih
 ·intro p hp
  rcases List.mem_append.1 hp with h | h
  ·exact ih p h
  ·simp at h; subst h; simpa using hr
theorem faiF_run (m : Mac) : ∀ k, ∀ p ∈ faiF m k, p.2.length ≤ k
 | 0 => by simp [faiF]
 | k + 1 => by
  have ih := faiF_run m k
  show ∀ p ∈ (match (faiF m k)[k]? with | some p => faiIn (faiF m k) p.1 p.2 (movL m p.1) | none => faiF m k), p.2.length ≤ k + 1
  cases h : (faiF m k)[k]? with
  | none => exact fun p hp => Nat.le_succ_of_le (ih p hp)
  | some p => exact faiIn_run (by have := ih p (List.mem_of_getElem? h); omega) (fun q hq => Nat.le_succ_of_le (ih q hq)) _
/- The level of a series: the greatest size that enough pulses reach. No program in sight. -/
def srt (l : List Int) : List Int := l.mergeSort (fun x y => decide (x ≤ y))
theorem srt_perm (l : List Int) : (srt l).Perm l := List.mergeSort_perm l _
theorem srt_len (l : List Int) : (srt l).length = l.length := (srt_perm l).length_eq
theorem srt_sorted (l : List Int) : (srt l).Pairwise (fun x y => x ≤ y) := by
 have h := List.pairwise_mergeSort (le := fun x y : Int => decide (x ≤ y)) (fun a b c h1 h2 => by simp at *; omega) (fun a b => by simp; omega) l
 exact h.imp (fun h => by simpa using h)
/- The contracts of slices.Sort at integers, laid at this program (a tool of the kit wrote these rows). -/
open Go.Shelf Go.RowKit Go.Proofs
def sortInts_ren : Go.Shelf.Ren := ⟨fun | 189 => 80 | 125 => 114 | 257 => 113 | 128 => 139 | 129 => 140 | 294 => 130 | 295 => 131 | 296 => 132 | 297 => 133 | 298 => 134 | 299 => 135 | 216 => 136 | 300 => 137 | 301 => 138 | 328 => 153 | 329 => 154 | 330 => 155 | 331 => 156 | 332 => 157 | 215 => 158 | 343 => 170 | n => n, fun | 28 => 48 | 3 => 3 | 46 => 132 | 0 => 0 | 51 => 194 | 53 => 196 | 4 => 4 | 183 => 188 | 182 => 187 | 131 => 39 | 5 => 5 | 9 => 9 | 218 => 210 | 222 => 214 | 228 => 224 | 229 => 56 | n => n, fun | n => n⟩
theorem sortInts : Go.Proofs.Lays.n189 Tryz.prog sortInts_ren := {
 mixed := by kernel_rfl
 f125 := Tryz.func114.trans (congrArg some (by kernel_rfl))
 f128 := Tryz.func139.trans (congrArg some (by kernel_rfl))
 f129 := Tryz.func140.trans (congrArg some (by kernel_rfl))
 f189 := Tryz.func80.trans (congrArg some (by kernel_rfl))
 f215 := Tryz.func158.trans (congrArg some (by kernel_rfl))
 f216 := Tryz.func136.trans (congrArg some (by kernel_rfl))
 f257 := Tryz.func113.trans (congrArg some (by kernel_rfl))
 f294 := Tryz.func130.trans (congrArg some (by kernel_rfl))
 f295 := Tryz.func131.trans (congrArg some (by kernel_rfl))
 f296 := Tryz.func132.trans (congrArg some (by kernel_rfl))
 f297 := Tryz.func133.trans (congrArg some (by kernel_rfl))
 f298 := Tryz.func134.trans (congrArg some (by kernel_rfl))
 f299 := Tryz.func135.trans (congrArg some (by kernel_rfl))
 f300 := Tryz.func137.trans (congrArg some (by kernel_rfl))
 f301 := Tryz.func138.trans (congrArg some (by kernel_rfl))
 f328 := Tryz.func153.trans (congrArg some (by kernel_rfl))
 f329 := Tryz.func154.trans (congrArg some (by kernel_rfl))
 f330 := Tryz.func155.trans (congrArg some (by kernel_rfl))
 f331 := Tryz.func156.trans (congrArg some (by kernel_rfl))
 f332 := Tryz.func157.trans (congrArg some (by kernel_rfl))
 f343 := Tryz.func170.trans (congrArg some (by kernel_rfl))
 t0 := Tryz.underlying0
 a0 := Tryz.isAgg0
 z0 := Tryz.sizeOf0
 v0 := Tryz.zeroValue0
 t3 := Tryz.underlying3
 a3 := Tryz.isAgg3
 z3 := Tryz.sizeOf3
 v3 := Tryz.zeroValue3
 t4 := Tryz.underlying4
 a4 := Tryz.isAgg4
 z4 := Tryz.sizeOf4
 v4 := Tryz.zeroValue4
 t5 := Tryz.underlying5
 a5 := Tryz.isAgg5
 z5 := Tryz.sizeOf5
 v5 := Tryz.zeroValue5
 t9 := Tryz.underlying9
 a9 := Tryz.isAgg9
 z9 := Tryz.sizeOf9
 v9 := Tryz.zeroValue9
 t28 := Tryz.underlying48
 a28 := Tryz.isAgg48
 z28 := Tryz.sizeOf48
 v28 := Tryz.zeroValue48
 t46 := Tryz.underlying132
 a46 := Tryz.isAgg132
 z46 := Tryz.sizeOf132
 v46 := Tryz.zeroValue132
 t51 := Tryz.underlying194
 a51 := Tryz.isAgg194
 z51 := Tryz.sizeOf194
 v51 := Tryz.zeroValue194
 t53 := Tryz.underlying196
 a53 := Tryz.isAgg196
 z53 := Tryz.sizeOf196
 v53 := Tryz.zeroValue196
 t131 := Tryz.underlying39
 a131 := Tryz.isAgg39
 z131 := Tryz.sizeOf39
 v131 := Tryz.zeroValue39
 t182 := Tryz.underlying187
 a182 := Tryz.isAgg187
 z182 := Tryz.sizeOf187
 v182 := Tryz.zeroValue187
 t183 := Tryz.underlying188
 a183 := Tryz.isAgg188
 z183 := Tryz.sizeOf188
 v183 := Tryz.zeroValue188
 t218 := Tryz.underlying210
 a218 := Tryz.isAgg210
 z218 := Tryz.sizeOf210
 v218 := Tryz.zeroValue210
 t222 := Tryz.underlying214
 a222 := Tryz.isAgg214
 z222 := Tryz.sizeOf214
 v222 := Tryz.zeroValue214
 t228 := Tryz.underlying224
 a228 := Tryz.isAgg224
 z228 := Tryz.sizeOf224
 v228 := Tryz.zeroValue224
 t229 := Tryz.underlying56
 a229 := Tryz.isAgg56
 z229 := Tryz.sizeOf56
 v229 := Tryz.zeroValue56 }
/- slices.Sort at integers; the reached states ascending. -/
open Go.RowKit Go.Sort Go.Shelf
theorem below_sorted {α : Type} [Inhabited α] {enc : α → Value} {w : World} {B blk off q : Nat} {d : Array α} {os : Array Obj} (hB : B ≤ blk) (hlt : blk < w.heap.size) : Below B w (grow (putRow enc (Sort.ahead w q) blk off d) os) :=
 ⟨rfl, rfl, rfl, by simp [grow, putRow, mapBlock, Sort.ahead], fun b hb => by
  have h1 : b < w.heap.size := by omega
  have h2 : blk ≠ b := by omega
  simp [grow, putRow, mapBlock, Sort.ahead, Array.getElem?_append, h1, Array.getElem_modify, h2]⟩
theorem sortInts_any (w : World) (base n cv : Nat) (av : Option Addr) (L : List Int) (hO : w.ownsRow base 3 1 (.slice av n cv) n (icells L)) (hn : 0 < n) (hn2 : n ≤ 1000) :
    Calls Tryz.prog 80 #[.slice av n cv] w fun e w' => e = .returned (.tuple #[]) ∧ w'.ownsRow base 3 1 (.slice av n cv) n (icells (srt L)) ∧ Below base w w' ∧ w.grownBy w' (Value.slice av n cv).ownBlock := by
 have hlen : L.length = n := by have := hO.1; rw [icells_length] at this; omega
 subst hlen
 rcases hO.2 with ⟨h0, _⟩ | ⟨g, cap, cur, hv, hbase, hb, hc1, hc2, hc3, hc4⟩
 ·simp at h0; omega
 ·cases hv
  have hlt : g < w.heap.size := (Array.getElem?_eq_some_iff.1 hb).1
  have hH : Holds (Value.int .i64) w g 0 L.toArray := holds_of_blockI hb (by rw [Nat.mul_one] at hc4; exact hc4)
  refine (Any.slices_Sort_int sortInts g 0 cv L w hH hlt (by omega)).mono ?_
  rintro e w' ⟨rfl, q, os, rfl⟩
  exact ⟨rfl, ownsRow_sortedI (ss := L) (ts := srt L) (srt_len L) hbase hb hc1 hc2 hc3, below_sorted hbase hlt, grownBy_sortedI _⟩
theorem pair_eq : ∀ (a b : List Int), a.Perm b → a.Pairwise (fun x y => x ≤ y) → b.Pairwise (fun x y => x ≤ y) → a = b
 | [], b, h, _, _ => (List.nil_perm.1 h).symm
 | x :: a, [], h, _, _ => by simpa using h.length_eq
 | x :: a, y :: b, h, h1, h2 => by
  have hx : x ∈ y :: b := h.mem_iff.1 (by simp)
  have hy : y ∈ x :: a := h.mem_iff.2 (by simp)
  rw [List.pairwise_cons] at h1 h2
  have e : x = y := by
   have l1 : y ≤ x := by
    rcases List.mem_cons.1 hx with rfl | h3
    ·exact Int.le_refl _
    ·exact h2.1 _ h3
   have l2 : x ≤ y := by
    rcases List.mem_cons.1 hy with rfl | h3
    ·exact Int.le_refl _
    ·exact h1.1 _ h3
   omega
  subst e
  rw [pair_eq a b ((List.perm_cons x).1 h) h1.2 h2.2]
theorem srt_reaS {m : Mac} (hm : MacV m) : srt (nats (reaA m)) = nats (reaS m) := by
 have hr := reaF_ok hm 64
 have hp : (reaA m).Perm (reaS m) := by
  refine (List.perm_ext_iff_of_nodup hr.nd (List.Pairwise.filter _ List.nodup_range)).2 (fun s => ?_)
  show s ∈ reaA m ↔ s ∈ (List.range (2 ^ m.br.length)).filter (fun s => decide (s ∈ reaA m))
  rw [List.mem_filter, List.mem_range, decide_eq_true_eq]
  exact ⟨fun h => ⟨hr.lt s h, h⟩, fun h => h.2⟩
 refine pair_eq _ _ ((srt_perm _).trans (hp.map _)) (srt_sorted _) ?_
 unfold reaS nats
 rw [List.pairwise_map]
 exact (List.Pairwise.filter _ List.pairwise_lt_range).imp (fun h => by omega)
def knw (o : List Nat) : Array Value := ((List.range 64).map fun s => Value.bool (decide (s ∈ o))).toArray
theorem knw_get (o : List Nat) {s : Nat} (h : s < 64) : (knw o)[s]? = some (.bool (decide (s ∈ o))) := by
 unfold knw
 rw [List.getElem?_toArray, List.getElem?_map, List.getElem?_range h]
 rfl
theorem knw_set (o : List Nat) (s : Nat) : (knw o).setIfInBounds s (.bool true) = knw (o ++ [s]) := by
 apply Array.ext'
 unfold knw
 simp only [List.setIfInBounds_toArray]
 apply List.ext_getElem (by simp)
 intro i h1 h2
 rw [List.getElem_set]
 simp only [List.getElem_map, List.getElem_range]
 by_cases hi : s = i
 ·subst hi; simp
 ·simp [hi, Ne.symm hi]
end Go.Proofs.YtdjinmieogpgcaaGreat
