import Derived.Test.YtidboecjllaofaaGreatMA
/- Going from state to state until one comes again: orbits, the last move, and when it rests. No program in sight. -/
namespace Go.Proofs.YtidboecjllaofaaGreat
set_option linter.unusedVariables false

/-- As many different numbers below N as there are places: at most N. -/
theorem pigeon : ∀ (N T : Nat) (g : Nat → Nat), (∀ i, i < T → g i < N) → (∀ i j, i < j → j < T → g i ≠ g j) → T ≤ N
  | 0, T, g, h, _ => by
    rcases Nat.eq_zero_or_pos T with h0 | h0
    · omega
    · exact absurd (h 0 h0) (Nat.not_lt_zero _)
  | N + 1, T, g, h, hi => by
    by_cases hx : ∃ k, k < T ∧ g k = N
    · obtain ⟨k, hk, hg⟩ := hx
      have := pigeon N (T - 1) (fun i => if i < k then g i else g (i + 1)) (fun i hiT => by
        show (if i < k then g i else g (i + 1)) < N
        split
        · next hlt =>
          have h1 := h i (by omega)
          have h2 := hi i k hlt hk
          omega
        · next hlt =>
          have h1 := h (i + 1) (by omega)
          have h2 := hi k (i + 1) (by omega) (by omega)
          omega) (fun i j hij hj => by
        show (if i < k then g i else g (i + 1)) ≠ (if j < k then g j else g (j + 1))
        split
        · next h1 =>
          split
          · exact hi i j hij (by omega)
          · exact hi i (j + 1) (by omega) (by omega)
        · next h1 =>
          rw [if_neg (by omega)]
          exact hi (i + 1) (j + 1) (by omega) (by omega))
      omega
    · exact Nat.le_succ_of_le (pigeon N T g (fun i hiT => by
        have h1 := h i hiT
        have h2 : g i ≠ N := fun e => hx ⟨i, hiT, e⟩
        omega) hi)
section
variable {S : Type}
/-- The state after k ticks. -/
def itr (f : S → S) (s : S) : Nat → S
  | 0 => s
  | k + 1 => f (itr f s k)
theorem itr_add (f : S → S) (s : S) (a : Nat) : ∀ b, itr f s (a + b) = itr f (itr f s a) b
  | 0 => rfl
  | b + 1 => by show f (itr f s (a + b)) = f (itr f (itr f s a) b); rw [itr_add f s a b]
theorem itr_inv {f : S → S} {p : S → Prop} (hp : ∀ s, p s → p (f s)) {s : S} (h : p s) : ∀ k, p (itr f s k)
  | 0 => h
  | k + 1 => hp _ (itr_inv hp h k)
/-- The tick behind the last move before k (0: none). -/
def lastM (f : S → S) (mv : S → Bool) (s : S) : Nat → Nat
  | 0 => 0
  | k + 1 => if mv (itr f s k) = true then k + 1 else lastM f mv s k
theorem lastM_le (f : S → S) (mv : S → Bool) (s : S) : ∀ k, lastM f mv s k ≤ k
  | 0 => Nat.le_refl _
  | k + 1 => by
    unfold lastM
    split
    · exact Nat.le_refl _
    · exact Nat.le_succ_of_le (lastM_le f mv s k)
theorem lastM_quiet {f : S → S} {mv : S → Bool} {s : S} : ∀ {k i : Nat}, lastM f mv s k ≤ i → i < k → mv (itr f s i) = false
  | 0, i, _, h => absurd h (Nat.not_lt_zero _)
  | k + 1, i, h, hi => by
    unfold lastM at h
    split at h
    · omega
    · next hm =>
      rcases Nat.lt_or_ge i k with h1 | h1
      · exact lastM_quiet h h1
      · obtain rfl : i = k := by omega
        simpa using hm
theorem lastM_moved {f : S → S} {mv : S → Bool} {s : S} : ∀ {k : Nat}, 0 < lastM f mv s k → mv (itr f s (lastM f mv s k - 1)) = true
  | 0, h => absurd h (Nat.lt_irrefl _)
  | k + 1, h => by
    unfold lastM at h ⊢
    by_cases hm : mv (itr f s k) = true
    · rw [if_pos hm]; exact hm
    · rw [if_neg hm] at h ⊢; exact lastM_moved h
theorem lastM_same {f : S → S} {mv : S → Bool} {s : S} {k : Nat} : ∀ {m : Nat}, k ≤ m → (∀ i, k ≤ i → i < m → mv (itr f s i) = false) → lastM f mv s m = lastM f mv s k
  | 0, hk, _ => by obtain rfl : k = 0 := by omega
                   rfl
  | m + 1, hk, h => by
    rcases Nat.lt_or_ge m k with h1 | h1
    · obtain rfl : k = m + 1 := by omega
      rfl
    · rw [show lastM f mv s (m + 1) = if mv (itr f s m) = true then m + 1 else lastM f mv s m from rfl, if_neg (by rw [h m h1 (Nat.lt_succ_self _)]; decide)]
      exact lastM_same h1 (fun i hi hm => h i hi (by omega))
/-- A first repetition: the state of tick T is that of tick fr. -/
structure Rep (f : S → S) (s : S) (T fr : Nat) : Prop where
  lt : fr < T
  eq : itr f s fr = itr f s T
  inj : ∀ i j, i < j → j < T → itr f s i ≠ itr f s j
theorem Rep.per {f : S → S} {s : S} {T fr : Nat} (h : Rep f s T fr) (i : Nat) (hi : fr ≤ i) : itr f s (i + (T - fr)) = itr f s i := by
  have e1 : i + (T - fr) = T + (i - fr) := by have := h.lt; omega
  have e2 : i = fr + (i - fr) := by omega
  rw [e1, itr_add, ← h.eq, ← itr_add, ← e2]
theorem Rep.pers {f : S → S} {s : S} {T fr : Nat} (h : Rep f s T fr) (i : Nat) (hi : fr ≤ i) : ∀ k, itr f s (i + k * (T - fr)) = itr f s i
  | 0 => by simp
  | k + 1 => by
    rw [Nat.succ_mul, ← Nat.add_assoc, h.per _ (Nat.le_trans hi (Nat.le_add_right _ _)), h.pers i hi k]
/-- What is there from fr on is there within a turn. -/
theorem Rep.fold {f : S → S} {s : S} {T fr : Nat} (h : Rep f s T fr) (i : Nat) (hi : fr ≤ i) : ∃ j, fr ≤ j ∧ j < T ∧ itr f s i = itr f s j := by
  have hp : 0 < T - fr := by have := h.lt; omega
  refine ⟨fr + (i - fr) % (T - fr), Nat.le_add_right _ _, by have := Nat.mod_lt (i - fr) hp; omega, ?_⟩
  have e : i = (fr + (i - fr) % (T - fr)) + ((i - fr) / (T - fr)) * (T - fr) := by
    have := Nat.mod_add_div (i - fr) (T - fr)
    rw [Nat.mul_comm] at this
    omega
  have hh := h.pers (fr + (i - fr) % (T - fr)) (Nat.le_add_right _ _) ((i - fr) / (T - fr))
  rw [← e] at hh
  exact hh
/-- It rests: no move from fr on. -/
theorem Rep.rest {f : S → S} {mv : S → Bool} {s : S} {T fr : Nat} (h : Rep f s T fr) (hl : lastM f mv s T ≤ fr) (i : Nat) (hi : lastM f mv s T ≤ i) : mv (itr f s i) = false := by
  rcases Nat.lt_or_ge i T with h1 | h1
  · exact lastM_quiet hi h1
  · obtain ⟨j, h2, h3, h4⟩ := h.fold i (by have := h.lt; omega)
    rw [h4]
    exact lastM_quiet (Nat.le_trans hl h2) h3
/-- It never rests: behind every tick there is a move, within a turn. -/
theorem Rep.moves {f : S → S} {mv : S → Bool} {s : S} {T fr : Nat} (h : Rep f s T fr) (hl : ¬ lastM f mv s T ≤ fr) (i : Nat) (hi : fr ≤ i) : ∃ j, i ≤ j ∧ j < i + (T - fr) ∧ mv (itr f s j) = true := by
  have hm := lastM_moved (f := f) (mv := mv) (s := s) (k := T) (by omega)
  obtain ⟨t, ht⟩ : ∃ t, t = lastM f mv s T - 1 := ⟨_, rfl⟩
  rw [← ht] at hm
  have htT := lastM_le f mv s T
  have hp : 0 < T - fr := by have := h.lt; omega
  have h1 : fr ≤ t := by omega
  have h2 : t < T := by omega
  -- the first j from i on with j = t (mod T - fr)
  have key : ∀ d i, fr ≤ i → d = t + (i + 1) * (T - fr) - i → ∃ j, i ≤ j ∧ j < i + (T - fr) ∧ mv (itr f s j) = true := by
    intro d i hi _
    have e0 : i ≤ t + (i + 1) * (T - fr) := Nat.le_trans (Nat.le_mul_of_pos_right i hp) (by rw [Nat.succ_mul]; omega)
    refine ⟨i + (t + (i + 1) * (T - fr) - i) % (T - fr), Nat.le_add_right _ _, by have := Nat.mod_lt (t + (i + 1) * (T - fr) - i) hp; omega, ?_⟩
    have h3 := h.pers (i + (t + (i + 1) * (T - fr) - i) % (T - fr)) (by omega) ((t + (i + 1) * (T - fr) - i) / (T - fr))
    have e : i + (t + (i + 1) * (T - fr) - i) % (T - fr) + (t + (i + 1) * (T - fr) - i) / (T - fr) * (T - fr) = t + (i + 1) * (T - fr) := by
      have := Nat.mod_add_div (t + (i + 1) * (T - fr) - i) (T - fr)
      rw [Nat.mul_comm (T - fr) (_ / _)] at this
      omega
    rw [e, h.pers t h1] at h3
    rw [← h3]
    exact hm
  exact key _ i hi rfl
/-- Two first repetitions are one. -/
theorem Rep.uniq {f : S → S} {s : S} {T fr T' fr' : Nat} (h : Rep f s T fr) (h' : Rep f s T' fr') : T = T' ∧ fr = fr' := by
  have e : T = T' := by
    rcases Nat.lt_trichotomy T T' with h1 | h1 | h1
    · exact absurd h.eq (h'.inj _ _ h.lt h1)
    · exact h1
    · exact absurd h'.eq (h.inj _ _ h'.lt h1)
  subst e
  refine ⟨rfl, ?_⟩
  rcases Nat.lt_trichotomy fr fr' with h1 | h1 | h1
  · exact absurd (h.eq.trans h'.eq.symm) (h.inj _ _ h1 h'.lt)
  · exact h1
  · exact absurd (h'.eq.trans h.eq.symm) (h.inj _ _ h1 h.lt)
/-- There is one, where there are only N states. -/
theorem rep_bound {f : S → S} {s : S} {N : Nat} {p : S → Prop} (code : S → Nat) (hp : ∀ s, p s → p (f s)) (hs : p s) (hc : ∀ s, p s → code s < N) (hi : ∀ a b, p a → p b → code a = code b → a = b)
    {T : Nat} (h : ∀ i j, i < j → j < T → itr f s i ≠ itr f s j) : T ≤ N :=
  pigeon N T (fun i => code (itr f s i)) (fun i _ => hc _ (itr_inv hp hs i)) (fun i j h1 h2 e => h i j h1 h2 (hi _ _ (itr_inv hp hs i) (itr_inv hp hs j) e))
end
end Go.Proofs.YtidboecjllaofaaGreat

/- Regulators, moments and pairs, in plain words. No program in sight. -/
namespace Go.Proofs.YtidboecjllaofaaGreat
set_option linter.unusedVariables false

structure Reg where
  tgt : Int
  band : Int
  dly : Int
  stp : Int
  lo : Int
  hi : Int
deriving DecidableEq
structure Mom where
  tap : Int
  wait : Int
deriving DecidableEq
def regB (r : Reg) : Bool := wi r.tgt (-10000) 10000 && wi r.band 0 10000 && wi r.dly 1 20 && wi r.stp 1 10000 && wi r.lo (-40) 40 && wi r.hi (-40) 40
def regE (r : Reg) : Int := firstErr [unl (regB r) 2, unl (decide (r.lo ≤ r.hi)) 9]
def momE (r : Reg) (m : Mom) : Int := unl (wi m.tap r.lo r.hi && wi m.wait (1 - r.dly) (r.dly - 1)) 2
def swE (d : Int) : Int := unl (wi d (-10000) 10000) 2
theorem unl_zero' {b : Bool} {e : Int} (he : e ≠ 0) : unl b e = 0 ↔ b = true := by
  unfold unl; cases b <;> simp [he]
theorem firstErr_zero' {x : Int} {r : List Int} : firstErr (x :: r) = 0 ↔ x = 0 ∧ firstErr r = 0 := by
  show (if x = 0 then firstErr r else x) = 0 ↔ _
  split
  · next h => simp [h]
  · next h => simp [h]
/-- What a valid regulator and a valid moment are. -/
structure RegV (r : Reg) : Prop where
  t0 : -10000 ≤ r.tgt
  t1 : r.tgt ≤ 10000
  b0 : 0 ≤ r.band
  b1 : r.band ≤ 10000
  d0 : 1 ≤ r.dly
  d1 : r.dly ≤ 20
  s0 : 1 ≤ r.stp
  s1 : r.stp ≤ 10000
  l0 : -40 ≤ r.lo
  l1 : r.lo ≤ r.hi
  h1 : r.hi ≤ 40
def MomV (r : Reg) (m : Mom) : Prop := (r.lo ≤ m.tap ∧ m.tap ≤ r.hi) ∧ 1 - r.dly ≤ m.wait ∧ m.wait ≤ r.dly - 1
theorem regE_zero {r : Reg} : regE r = 0 ↔ RegV r := by
  unfold regE regB
  rw [firstErr_zero', firstErr_zero', unl_zero' (by decide), unl_zero' (by decide)]
  simp only [Bool.and_eq_true, wi_iff, decide_eq_true_eq]
  constructor
  · rintro ⟨⟨⟨⟨⟨⟨a, b⟩, c⟩, d⟩, e⟩, f⟩, g, _⟩
    exact ⟨a.1, a.2, b.1, b.2, c.1, c.2, d.1, d.2, e.1, g, f.2⟩
  · intro h
    exact ⟨⟨⟨⟨⟨⟨⟨h.t0, h.t1⟩, h.b0, h.b1⟩, h.d0, h.d1⟩, h.s0, h.s1⟩, h.l0, by have := h.l1; have := h.h1; omega⟩, by have := h.l0; have := h.l1; omega, h.h1⟩, h.l1, rfl⟩
theorem momE_zero {r : Reg} {m : Mom} : momE r m = 0 ↔ MomV r m := by
  unfold momE MomV
  rw [unl_zero' (by decide)]
  simp only [Bool.and_eq_true, wi_iff]
theorem swE_zero {d : Int} : swE d = 0 ↔ -10000 ≤ d ∧ d ≤ 10000 := by
  unfold swE
  rw [unl_zero' (by decide), wi_iff]
/-- The moment after a tick at which a voltage was measured. -/
def act (r : Reg) (m : Mom) (v : Int) : Mom :=
  if r.tgt - r.band ≤ v ∧ v ≤ r.tgt + r.band then ⟨m.tap, 0⟩
  else if v < r.tgt then (if -r.dly < min m.wait 0 - 1 then ⟨m.tap, min m.wait 0 - 1⟩ else ⟨min (m.tap + 1) r.hi, 0⟩)
  else (if max m.wait 0 + 1 < r.dly then ⟨m.tap, max m.wait 0 + 1⟩ else ⟨max (m.tap - 1) r.lo, 0⟩)
theorem act_valid {r : Reg} (hr : RegV r) {m : Mom} (hm : MomV r m) (v : Int) : MomV r (act r m v) := by
  obtain ⟨⟨h1, h2⟩, h3, h4⟩ := hm
  have := hr.d0
  have := hr.l1
  unfold act MomV
  split
  · exact ⟨⟨h1, h2⟩, by simp only; omega, by simp only; omega⟩
  · split
    · split
      · exact ⟨⟨h1, h2⟩, by simp only; omega, by simp only; omega⟩
      · exact ⟨⟨by simp only; omega, by simp only; omega⟩, by simp only; omega, by simp only; omega⟩
    · split
      · exact ⟨⟨h1, h2⟩, by simp only; omega, by simp only; omega⟩
      · exact ⟨⟨by simp only; omega, by simp only; omega⟩, by simp only; omega, by simp only; omega⟩
def vol (r : Reg) (d t : Int) : Int := d + r.stp * t
def tick (r : Reg) (d : Int) (m : Mom) : Mom := act r m (vol r d m.tap)
theorem tick_valid {r : Reg} (hr : RegV r) (d : Int) (m : Mom) (hm : MomV r m) : MomV r (tick r d m) := act_valid hr hm _
/-- A tick moves the tap. -/
def mvT (r : Reg) (d : Int) (m : Mom) : Bool := decide (m.tap ≠ (tick r d m).tap)
def codeM (m : Mom) : Nat := ((m.tap + 40) * 40 + (m.wait + 19)).toNat
theorem codeM_lt {r : Reg} (hr : RegV r) (m : Mom) (h : MomV r m) : codeM m < 3240 := by
  obtain ⟨⟨h1, h2⟩, h3, h4⟩ := h
  have := hr.l0
  have := hr.h1
  have := hr.d1
  unfold codeM
  omega
theorem codeM_inj {r : Reg} (hr : RegV r) (a b : Mom) (ha : MomV r a) (hb : MomV r b) (h : codeM a = codeM b) : a = b := by
  obtain ⟨⟨h1, h2⟩, h3, h4⟩ := ha
  obtain ⟨⟨g1, g2⟩, g3, g4⟩ := hb
  have := hr.l0
  have := hr.h1
  have := hr.d1
  unfold codeM at h
  cases a; cases b
  simp only [Mom.mk.injEq] at *
  omega
/-- Moments differ for at most 3240 ticks. -/
theorem tick_bound {r : Reg} (hr : RegV r) {d : Int} {m : Mom} (hm : MomV r m) {T : Nat} (h : ∀ i j, i < j → j < T → itr (tick r d) m i ≠ itr (tick r d) m j) : T ≤ 3240 :=
  rep_bound (p := MomV r) codeM (tick_valid hr d) hm (codeM_lt hr) (codeM_inj hr) h
/-- The last moves of 8000 ticks say whether it rests (the reference). -/
def setR (r : Reg) (d : Int) (m : Mom) : (Nat × Int) × Bool :=
  if lastM (tick r d) (mvT r d) m 8000 ≤ 4000 then ((lastM (tick r d) (mvT r d) m 8000, (itr (tick r d) m 8000).tap), true) else ((0, 0), false)
theorem tap_still {r : Reg} {d : Int} {m : Mom} {k : Nat} (h : ∀ i, k ≤ i → mvT r d (itr (tick r d) m i) = false) : ∀ i, k ≤ i → (itr (tick r d) m i).tap = (itr (tick r d) m k).tap
  | 0, hi => by obtain rfl : k = 0 := by omega
                rfl
  | i + 1, hi => by
    rcases Nat.lt_or_ge i k with h1 | h1
    · obtain rfl : k = i + 1 := by omega
      rfl
    · have h2 := h i h1
      unfold mvT at h2
      rw [decide_eq_false_iff_not, Decidable.not_not] at h2
      show (tick r d (itr (tick r d) m i)).tap = _
      rw [← h2]
      exact tap_still h i h1
/-- What the program finds by the first repetition. -/
theorem setR_rep {r : Reg} (hr : RegV r) {d : Int} {m : Mom} (hm : MomV r m) {T fr : Nat} (h : Rep (tick r d) m T fr) :
    setR r d m = if lastM (tick r d) (mvT r d) m T ≤ fr then ((lastM (tick r d) (mvT r d) m T, (itr (tick r d) m T).tap), true) else ((0, 0), false) := by
  have hT := tick_bound hr hm h.inj
  have hlt := h.lt
  unfold setR
  by_cases hl : lastM (tick r d) (mvT r d) m T ≤ fr
  · rw [if_pos hl]
    have hq := h.rest hl
    have hLT := lastM_le (tick r d) (mvT r d) m T
    rw [lastM_same (k := T) (by omega) (fun i h1 _ => hq i (by omega)), if_pos (by omega), tap_still (k := T) (fun i h1 => hq i (by omega)) 8000 (by omega)]
  · rw [if_neg hl, if_neg (fun hh => by
      obtain ⟨j, h1, h2, h3⟩ := h.moves (mv := mvT r d) hl 4000 (by omega)
      rw [lastM_quiet (f := tick r d) (mv := mvT r d) (s := m) (k := 8000) (i := j) (by omega) (by omega)] at h3
      exact absurd h3 (by decide))]
/-- Too low and too high at a tap. -/
def lowT (r : Reg) (d t : Int) : Prop := vol r d t < r.tgt - r.band
def highT (r : Reg) (d t : Int) : Prop := r.tgt + r.band < vol r d t
def hunts (r : Reg) (d : Int) : Prop := ∃ t, r.lo ≤ t ∧ t < r.hi ∧ lowT r d t ∧ highT r d (t + 1)
theorem vol_mono {r : Reg} (hr : RegV r) {d s t : Int} (h : s ≤ t) : vol r d s ≤ vol r d t := by
  unfold vol
  have := Int.mul_le_mul_of_nonneg_left h (show 0 ≤ r.stp by have := hr.s0; omega)
  omega
theorem vol_succ (r : Reg) (d t : Int) : vol r d (t + 1) = vol r d t + r.stp := by unfold vol; rw [Int.mul_add]; omega
/-- What a tick does to the tap. -/
theorem tick_cases {r : Reg} (hr : RegV r) (d : Int) (m : Mom) (hm : MomV r m) :
    (tick r d m).tap = m.tap ∨ (lowT r d m.tap ∧ m.tap < r.hi ∧ (tick r d m).tap = m.tap + 1) ∨ (highT r d m.tap ∧ r.lo < m.tap ∧ (tick r d m).tap = m.tap - 1) := by
  obtain ⟨⟨h1, h2⟩, h3, h4⟩ := hm
  have := hr.b0
  unfold tick act lowT highT
  generalize vol r d m.tap = v
  split
  · exact .inl rfl
  · next hv =>
    split
    · next hlt =>
      split
      · exact .inl rfl
      · by_cases he : m.tap < r.hi
        · exact .inr (.inl ⟨by omega, he, by simp only; omega⟩)
        · exact .inl (by simp only; omega)
    · next hlt =>
      split
      · exact .inl rfl
      · by_cases he : r.lo < m.tap
        · exact .inr (.inr ⟨by omega, he, by simp only; omega⟩)
        · exact .inl (by simp only; omega)
/-- At a tap that is too low and not the last one it does not stay. -/
theorem low_leaves {r : Reg} (hr : RegV r) {d : Int} {m : Mom} (hm : MomV r m) (hl : lowT r d m.tap) (hi : m.tap < r.hi) (hq : ∀ i, mvT r d (itr (tick r d) m i) = false) : False := by
  have hd := hr.d0
  have hb := hr.b0
  have key : ∀ k : Nat, (itr (tick r d) m k).tap = m.tap ∧ min (itr (tick r d) m k).wait 0 ≤ -(k : Int) := by
    intro k
    induction k with
    | zero => exact ⟨rfl, by show min m.wait 0 ≤ _; omega⟩
    | succ k ih =>
      obtain ⟨h1, h2⟩ := ih
      have h3 := hq k
      unfold mvT at h3
      rw [decide_eq_false_iff_not, Decidable.not_not] at h3
      refine ⟨h3.symm.trans h1, ?_⟩
      show min (tick r d (itr (tick r d) m k)).wait 0 ≤ _
      generalize itr (tick r d) m k = x at *
      unfold tick act at h3 ⊢
      rw [h1] at h3 ⊢
      unfold lowT at hl
      generalize vol r d m.tap = v at *
      rw [if_neg (by omega), if_pos (by omega)] at h3 ⊢
      split at h3
      · next hc => rw [if_pos hc]; simp only; omega
      · next hc => simp only at h3; omega
  have h5 := (key r.dly.toNat).2
  have h6 := (itr_inv (tick_valid hr d) hm r.dly.toNat).2.1
  omega
theorem high_leaves {r : Reg} (hr : RegV r) {d : Int} {m : Mom} (hm : MomV r m) (hl : highT r d m.tap) (hi : r.lo < m.tap) (hq : ∀ i, mvT r d (itr (tick r d) m i) = false) : False := by
  have hd := hr.d0
  have hb := hr.b0
  have key : ∀ k : Nat, (itr (tick r d) m k).tap = m.tap ∧ (k : Int) ≤ max (itr (tick r d) m k).wait 0 := by
    intro k
    induction k with
    | zero => exact ⟨rfl, by show _ ≤ max m.wait 0; omega⟩
    | succ k ih =>
      obtain ⟨h1, h2⟩ := ih
      have h3 := hq k
      unfold mvT at h3
      rw [decide_eq_false_iff_not, Decidable.not_not] at h3
      refine ⟨h3.symm.trans h1, ?_⟩
      show _ ≤ max (tick r d (itr (tick r d) m k)).wait 0
      generalize itr (tick r d) m k = x at *
      unfold tick act at h3 ⊢
      rw [h1] at h3 ⊢
      unfold highT at hl
      generalize vol r d m.tap = v at *
      rw [if_neg (by omega), if_neg (by omega)] at h3 ⊢
      split at h3
      · next hc => rw [if_pos hc]; simp only; omega
      · next hc => simp only at h3; omega
  have h5 := (key r.dly.toNat).2
  have h6 := (itr_inv (tick_valid hr d) hm r.dly.toNat).2.2
  omega
/-- A moment at rest: within the band, or at an end on the right side. -/
theorem rest_place {r : Reg} (hr : RegV r) {d : Int} {m : Mom} (hm : MomV r m) (hq : ∀ i, mvT r d (itr (tick r d) m i) = false) :
    (r.tgt - r.band ≤ vol r d m.tap ∧ vol r d m.tap ≤ r.tgt + r.band) ∨ (lowT r d m.tap ∧ m.tap = r.hi) ∨ (highT r d m.tap ∧ m.tap = r.lo) := by
  have h1 := hm.1
  by_cases hl : lowT r d m.tap
  · rcases Int.lt_or_le m.tap r.hi with h | h
    · exact (low_leaves hr hm hl h hq).elim
    · exact .inr (.inl ⟨hl, by omega⟩)
  · by_cases hh : highT r d m.tap
    · rcases Int.lt_or_le r.lo m.tap with h | h
      · exact (high_leaves hr hm hh h hq).elim
      · exact .inr (.inr ⟨hh, by omega⟩)
    · unfold lowT at hl
      unfold highT at hh
      exact .inl ⟨by omega, by omega⟩
/-- Where it hunts there is no rest. -/
theorem hunts_moves {r : Reg} (hr : RegV r) {d : Int} (hh : hunts r d) {m : Mom} (hm : MomV r m) : ¬ ∀ i, mvT r d (itr (tick r d) m i) = false := by
  intro hq
  obtain ⟨t, h1, h2, h3, h4⟩ := hh
  rcases Int.lt_or_le t m.tap with h | h
  · have := vol_mono hr (d := d) (show t + 1 ≤ m.tap by omega)
    exact high_leaves hr hm (by unfold highT at *; omega) (by omega) hq
  · have := vol_mono hr (d := d) h
    exact low_leaves hr hm (by unfold lowT at *; omega) (by omega) hq
/-- Where it does not hunt, a tap that has gone up (or down) does not come back. -/
theorem stays_up {r : Reg} (hr : RegV r) {d a : Int} (ha : ¬ highT r d a) : ∀ (k : Nat) (m : Mom), MomV r m → a ≤ m.tap → a ≤ (itr (tick r d) m k).tap
  | 0, m, _, h => h
  | k + 1, m, hm, h => by
    have h1 := stays_up hr ha k m hm h
    have h2 := itr_inv (tick_valid hr d) hm k
    show a ≤ (tick r d (itr (tick r d) m k)).tap
    rcases tick_cases hr d _ h2 with h3 | ⟨_, _, h3⟩ | ⟨h4, _, h3⟩
    · omega
    · omega
    · by_cases he : (itr (tick r d) m k).tap = a
      · rw [he] at h4; exact absurd h4 ha
      · omega
theorem stays_down {r : Reg} (hr : RegV r) {d a : Int} (ha : ¬ lowT r d a) : ∀ (k : Nat) (m : Mom), MomV r m → m.tap ≤ a → (itr (tick r d) m k).tap ≤ a
  | 0, m, _, h => h
  | k + 1, m, hm, h => by
    have h1 := stays_down hr ha k m hm h
    have h2 := itr_inv (tick_valid hr d) hm k
    show (tick r d (itr (tick r d) m k)).tap ≤ a
    rcases tick_cases hr d _ h2 with h3 | ⟨h4, _, h3⟩ | ⟨_, _, h3⟩
    · omega
    · by_cases he : (itr (tick r d) m k).tap = a
      · rw [he] at h4; exact absurd h4 ha
      · omega
    · omega
/-- It never rests exactly if it hunts. -/
theorem rests_iff {r : Reg} (hr : RegV r) {d : Int} {m : Mom} (hm : MomV r m) {T fr : Nat} (h : Rep (tick r d) m T fr) : lastM (tick r d) (mvT r d) m T ≤ fr ↔ ¬ hunts r d := by
  constructor
  · intro hl hh
    refine hunts_moves hr hh (itr_inv (tick_valid hr d) hm T) (fun i => ?_)
    rw [← itr_add]
    exact h.rest hl _ (by have := lastM_le (tick r d) (mvT r d) m T; omega)
  · intro hh
    refine Decidable.byContradiction fun hl => hh ?_
    obtain ⟨j, h1, h2, h3⟩ := h.moves (mv := mvT r d) hl fr (Nat.le_refl _)
    have hv := itr_inv (tick_valid hr d) hm j
    have hp := h.per j h1
    have hlt := h.lt
    obtain ⟨p, hp1⟩ : ∃ p, T - fr = p + 1 := ⟨T - fr - 1, by omega⟩
    rw [hp1, show j + (p + 1) = (j + 1) + p by omega, itr_add] at hp
    have hv1 := tick_valid hr d _ hv
    unfold mvT at h3
    rw [decide_eq_true_eq] at h3
    have e : itr (tick r d) m (j + 1) = tick r d (itr (tick r d) m j) := rfl
    rw [e] at hp
    rcases tick_cases hr d _ hv with h4 | ⟨h4, h5, h6⟩ | ⟨h4, h5, h6⟩
    · exact absurd h4.symm h3
    · refine ⟨(itr (tick r d) m j).tap, hv.1.1, h5, h4, Classical.byContradiction fun hn => ?_⟩
      have := stays_up hr hn p _ hv1 (by omega)
      rw [hp] at this
      omega
    · refine ⟨(itr (tick r d) m j).tap - 1, by omega, by have := hv.1.2; omega, Classical.byContradiction fun hn => ?_, by rw [show (itr (tick r d) m j).tap - 1 + 1 = (itr (tick r d) m j).tap by omega]; exact h4⟩
      have := stays_down hr hn p _ hv1 (by omega)
      rw [hp] at this
      omega
/-- The law of rest and of hunting. -/
theorem hunt_law {r : Reg} (hr : RegV r) {d : Int} {m : Mom} (hm : MomV r m) {T fr : Nat} (h : Rep (tick r d) m T fr) (hl : lastM (tick r d) (mvT r d) m T ≤ fr) :
    (r.lo ≤ (itr (tick r d) m T).tap ∧ (itr (tick r d) m T).tap ≤ r.hi) ∧
    ((r.tgt - r.band ≤ vol r d (itr (tick r d) m T).tap ∧ vol r d (itr (tick r d) m T).tap ≤ r.tgt + r.band) ∨ (vol r d (itr (tick r d) m T).tap < r.tgt ∧ (itr (tick r d) m T).tap = r.hi) ∨ (r.tgt < vol r d (itr (tick r d) m T).tap ∧ (itr (tick r d) m T).tap = r.lo)) := by
  have hv := itr_inv (tick_valid hr d) hm T
  have hb := hr.b0
  refine ⟨hv.1, ?_⟩
  rcases rest_place hr hv (fun i => by rw [← itr_add]; exact h.rest hl _ (by have := lastM_le (tick r d) (mvT r d) m T; omega)) with h1 | ⟨h1, h2⟩ | ⟨h1, h2⟩
  · exact .inl h1
  · unfold lowT at h1; exact .inr (.inl ⟨by omega, h2⟩)
  · unfold highT at h1; exact .inr (.inr ⟨by omega, h2⟩)
theorem hunts_step {r : Reg} {d : Int} (hh : hunts r d) : 2 * r.band < r.stp := by
  obtain ⟨t, _, _, h3, h4⟩ := hh
  unfold lowT at h3
  unfold highT at h4
  rw [vol_succ] at h4
  omega
/-- Pairs. -/
structure Pai where
  a : Reg
  b : Reg
  ma : Mom
  mb : Mom
deriving DecidableEq
def paiE (p : Pai) : Int := firstErr [regE p.a, regE p.b, momE p.a p.ma, momE p.b p.mb]
def volP (p : Pai) (d : Int) : Int := d + (p.a.stp * p.ma.tap + p.b.stp * p.mb.tap) / 2
def tickP (d : Int) (p : Pai) : Pai := ⟨p.a, p.b, act p.a p.ma (volP p d), act p.b p.mb (volP p d)⟩
def PaiV (p : Pai) : Prop := RegV p.a ∧ RegV p.b ∧ MomV p.a p.ma ∧ MomV p.b p.mb
theorem paiE_zero {p : Pai} : paiE p = 0 ↔ PaiV p := by
  unfold paiE PaiV
  rw [firstErr_zero', firstErr_zero', firstErr_zero', firstErr_zero', regE_zero, regE_zero, momE_zero, momE_zero]
  simp [firstErr]
theorem tickP_valid (d : Int) (p : Pai) (h : PaiV p) : PaiV (tickP d p) := ⟨h.1, h.2.1, act_valid h.1 h.2.2.1 _, act_valid h.2.1 h.2.2.2 _⟩
def mvP (d : Int) (p : Pai) : Bool := decide (p.ma.tap ≠ (tickP d p).ma.tap) || decide (p.mb.tap ≠ (tickP d p).mb.tap)
theorem tickP_regs (d : Int) (p : Pai) : ∀ k, (itr (tickP d) p k).a = p.a ∧ (itr (tickP d) p k).b = p.b
  | 0 => ⟨rfl, rfl⟩
  | k + 1 => tickP_regs d p k
/-- Pairs differ for at most 3240 * 3240 ticks. -/
theorem tickP_bound {d : Int} {p : Pai} (hp : PaiV p) {T : Nat} (h : ∀ i j, i < j → j < T → itr (tickP d) p i ≠ itr (tickP d) p j) : T ≤ 10497600 := by
  refine rep_bound (f := tickP d) (p := fun q => (q.a = p.a ∧ q.b = p.b) ∧ PaiV q) (fun q => codeM q.ma * 3240 + codeM q.mb) (fun q hq => ⟨hq.1, tickP_valid d q hq.2⟩) ⟨⟨rfl, rfl⟩, hp⟩ (fun q hq => ?_) (fun x y hx hy he => ?_) h
  · have h1 := codeM_lt hq.2.1 q.ma hq.2.2.2.1
    have h2 := codeM_lt hq.2.2.1 q.mb hq.2.2.2.2
    omega
  · have h1 := codeM_lt hx.2.1 x.ma hx.2.2.2.1
    have h2 := codeM_lt hx.2.2.1 x.mb hx.2.2.2.2
    have h3 := codeM_lt hy.2.1 y.ma hy.2.2.2.1
    have h4 := codeM_lt hy.2.2.1 y.mb hy.2.2.2.2
    have e1 : codeM x.ma = codeM y.ma := by omega
    have e2 : codeM x.mb = codeM y.mb := by omega
    have g1 : x.ma = y.ma := codeM_inj hx.2.1 _ _ hx.2.2.2.1 (by have := hy.2.2.2.1; rw [hy.1.1, ← hx.1.1] at this; exact this) e1
    have g2 : x.mb = y.mb := codeM_inj hx.2.2.1 _ _ hx.2.2.2.2 (by have := hy.2.2.2.2; rw [hy.1.2, ← hx.1.2] at this; exact this) e2
    obtain ⟨⟨a1, a2⟩, _⟩ := hx
    obtain ⟨⟨b1, b2⟩, _⟩ := hy
    cases x; cases y
    simp only at *
    subst g1 g2
    rw [a1, a2, b1, b2]
end Go.Proofs.YtidboecjllaofaaGreat
