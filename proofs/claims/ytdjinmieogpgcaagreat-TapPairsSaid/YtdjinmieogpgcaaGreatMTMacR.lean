import Derived.Test.YtdjinmieogpgcaaGreatMRef1
/- Machines: the reference's check, copies; few, bothErr. -/
namespace Go.Proofs.YtdjinmieogpgcaaGreat
open Go.RowKit
set_option linter.unusedVariables false
set_option linter.unusedSimpArgs false
theorem macE_h {m : Mac} (h : macH m.br.length ≠ 0) : macE m = (0, macH m.br.length) := by unfold macE; rw [if_pos h]
theorem macE_b {m : Mac} (h : macH m.br.length = 0) (h2 : (firstAt (fun k => brnE (bAt m.br k)) m.br.length 0).2 ≠ 0) : macE m = firstAt (fun k => brnE (bAt m.br k)) m.br.length 0 := by
 unfold macE; rw [if_neg (by rw [h]; decide), if_pos h2]
theorem macE_k {m : Mac} (h : macH m.br.length = 0) (h2 : (firstAt (fun k => brnE (bAt m.br k)) m.br.length 0).2 = 0) (h3 : macK m ≠ 0) : macE m = (0, macK m) := by
 unfold macE; rw [if_neg (by rw [h]; decide), if_neg (by rw [h2]; decide), if_pos h3]
theorem macE_g {m : Mac} (h : macH m.br.length = 0) (h2 : (firstAt (fun k => brnE (bAt m.br k)) m.br.length 0).2 = 0) (h3 : macK m = 0) : macE m = firstAt (fun k => grdE m.br.length (gAt m.gs k)) m.gs.length 0 := by
 unfold macE; rw [if_neg (by rw [h]; decide), if_neg (by rw [h2]; decide), if_neg (by rw [h3]; decide)]
theorem macH_zero {n : Nat} : macH n = 0 ↔ 0 < n ∧ n ≤ 6 := by
 unfold macH
 rw [firstErr_cons, firstErr_cons, unl_eq_zero (by decide), unl_eq_zero (by decide), decide_eq_true_eq, decide_eq_true_eq]
 constructor
 ·rintro ⟨a, b, _⟩; omega
 ·rintro ⟨a, b⟩; exact ⟨a, by omega, rfl⟩
/- Going from state to state until one comes again: orbits, the last move, and when it rests. No program in sight. -/
theorem pigeon : ∀ (N T : Nat) (g : Nat → Nat), (∀ i, i < T → g i < N) → (∀ i j, i < j → j < T → g i ≠ g j) → T ≤ N
 | 0, T, g, h, _ => by
  rcases Nat.eq_zero_or_pos T with h0 | h0
  ·omega
  ·exact absurd (h 0 h0) (Nat.not_lt_zero _)
 | N + 1, T, g, h, hi => by
  by_cases hx : ∃ k, k < T ∧ g k = N
  ·obtain ⟨k, hk, hg⟩ := hx
   have := pigeon N (T - 1) (fun i => if i < k then g i else g (i + 1)) (fun i hiT => by
    show (if i < k then g i else g (i + 1)) < N
    split
    ·next hlt =>
     have h1 := h i (by omega)
     have h2 := hi i k hlt hk
     omega
    ·next hlt =>
     have h1 := h (i + 1) (by omega)
     have h2 := hi k (i + 1) (by omega) (by omega)
     omega) (fun i j hij hj => by
    show (if i < k then g i else g (i + 1)) ≠ (if j < k then g j else g (j + 1))
    split
    ·next h1 =>
     split
     ·exact hi i j hij (by omega)
     ·exact hi i (j + 1) (by omega) (by omega)
    ·next h1 =>
     rw [if_neg (by omega)]
     exact hi (i + 1) (j + 1) (by omega) (by omega))
   omega
  ·exact Nat.le_succ_of_le (pigeon N T g (fun i hiT => by
     have h1 := h i hiT
     have h2 : g i ≠ N := fun e => hx ⟨i, hiT, e⟩
     omega) hi)
section
variable {S : Type}
def itr (f : S → S) (s : S) : Nat → S
 | 0 => s
 | k + 1 => f (itr f s k)
theorem itr_inv {f : S → S} {p : S → Prop} (hp : ∀ s, p s → p (f s)) {s : S} (h : p s) : ∀ k, p (itr f s k)
 | 0 => h
 | k + 1 => hp _ (itr_inv hp h k)
def lastM (f : S → S) (mv : S → Bool) (s : S) : Nat → Nat
 | 0 => 0
 | k + 1 => if mv (itr f s k) = true then k + 1 else lastM f mv s k
theorem lastM_le (f : S → S) (mv : S → Bool) (s : S) : ∀ k, lastM f mv s k ≤ k
 | 0 => Nat.le_refl _
 | k + 1 => by
  unfold lastM
  split
  ·exact Nat.le_refl _
  ·exact Nat.le_succ_of_le (lastM_le f mv s k)
structure Rep (f : S → S) (s : S) (T fr : Nat) : Prop where
 lt : fr < T
 eq : itr f s fr = itr f s T
 inj : ∀ i j, i < j → j < T → itr f s i ≠ itr f s j
theorem Rep.uniq {f : S → S} {s : S} {T fr T' fr' : Nat} (h : Rep f s T fr) (h' : Rep f s T' fr') : T = T' ∧ fr = fr' := by
 have e : T = T' := by
  rcases Nat.lt_trichotomy T T' with h1 | h1 | h1
  ·exact absurd h.eq (h'.inj _ _ h.lt h1)
  ·exact h1
  ·exact absurd h'.eq (h.inj _ _ h'.lt h1)
 subst e
 refine ⟨rfl, ?_⟩
 rcases Nat.lt_trichotomy fr fr' with h1 | h1 | h1
 ·exact absurd (h.eq.trans h'.eq.symm) (h.inj _ _ h1 h'.lt)
 ·exact h1
 ·exact absurd (h'.eq.trans h.eq.symm) (h.inj _ _ h1 h.lt)
theorem rep_bound {f : S → S} {s : S} {N : Nat} {p : S → Prop} (code : S → Nat) (hp : ∀ s, p s → p (f s)) (hs : p s) (hc : ∀ s, p s → code s < N) (hi : ∀ a b, p a → p b → code a = code b → a = b)
    {T : Nat} (h : ∀ i j, i < j → j < T → itr f s i ≠ itr f s j) : T ≤ N :=
 pigeon N T (fun i => code (itr f s i)) (fun i _ => hc _ (itr_inv hp hs i)) (fun i j h1 h2 e => h i j h1 h2 (hi _ _ (itr_inv hp hs i) (itr_inv hp hs j) e))
end
end Go.Proofs.YtdjinmieogpgcaaGreat
/- Regulators, moments and pairs, in plain words. No program in sight. -/
namespace Go.Proofs.YtdjinmieogpgcaaGreat
set_option linter.unusedVariables false
structure Reg where
 tgt : Int
 band : Int
 dly : Int
 stp : Int
 lo : Int
 hi : Int
deriving DecidableEq
structure Mom where
 tap : Int
 wait : Int
deriving DecidableEq
def regB (r : Reg) : Bool := wi r.tgt (-10000) 10000 && wi r.band 0 10000 && wi r.dly 1 20 && wi r.stp 1 10000 && wi r.lo (-40) 40 && wi r.hi (-40) 40
def regE (r : Reg) : Int := firstErr [unl (regB r) 2, unl (decide (r.lo ≤ r.hi)) 9]
def momE (r : Reg) (m : Mom) : Int := unl (wi m.tap r.lo r.hi && wi m.wait (1 - r.dly) (r.dly - 1)) 2
def swE (d : Int) : Int := unl (wi d (-10000) 10000) 2
theorem unl_zero' {b : Bool} {e : Int} (he : e ≠ 0) : unl b e = 0 ↔ b = true := by
 unfold unl; cases b <;> simp [he]
theorem firstErr_zero' {x : Int} {r : List Int} : firstErr (x :: r) = 0 ↔ x = 0 ∧ firstErr r = 0 := by
 show (if x = 0 then firstErr r else x) = 0 ↔ _
 split
 ·next h => simp [h]
 ·next h => simp [h]
structure RegV (r : Reg) : Prop where
 t0 : -10000 ≤ r.tgt
 t1 : r.tgt ≤ 10000
 b0 : 0 ≤ r.band
 b1 : r.band ≤ 10000
 d0 : 1 ≤ r.dly
 d1 : r.dly ≤ 20
 s0 : 1 ≤ r.stp
 s1 : r.stp ≤ 10000
 l0 : -40 ≤ r.lo
 l1 : r.lo ≤ r.hi
 h1 : r.hi ≤ 40
def MomV (r : Reg) (m : Mom) : Prop := (r.lo ≤ m.tap ∧ m.tap ≤ r.hi) ∧ 1 - r.dly ≤ m.wait ∧ m.wait ≤ r.dly - 1
theorem regE_zero {r : Reg} : regE r = 0 ↔ RegV r := by
 unfold regE regB
 rw [firstErr_zero', firstErr_zero', unl_zero' (by decide), unl_zero' (by decide)]
 simp only [Bool.and_eq_true, wi_iff, decide_eq_true_eq]
 constructor
 ·rintro ⟨⟨⟨⟨⟨⟨a, b⟩, c⟩, d⟩, e⟩, f⟩, g, _⟩
  exact ⟨a.1, a.2, b.1, b.2, c.1, c.2, d.1, d.2, e.1, g, f.2⟩
 ·intro h
  exact ⟨⟨⟨⟨⟨⟨⟨h.t0, h.t1⟩, h.b0, h.b1⟩, h.d0, h.d1⟩, h.s0, h.s1⟩, h.l0, by have := h.l1; have := h.h1; omega⟩, by have := h.l0; have := h.l1; omega, h.h1⟩, h.l1, rfl⟩
theorem momE_zero {r : Reg} {m : Mom} : momE r m = 0 ↔ MomV r m := by
 unfold momE MomV
 rw [unl_zero' (by decide)]
 simp only [Bool.and_eq_true, wi_iff]
theorem swE_zero {d : Int} : swE d = 0 ↔ -10000 ≤ d ∧ d ≤ 10000 := by
 unfold swE
 rw [unl_zero' (by decide), wi_iff]
def act (r : Reg) (m : Mom) (v : Int) : Mom :=
 if r.tgt - r.band ≤ v ∧ v ≤ r.tgt + r.band then ⟨m.tap, 0⟩
 else if v < r.tgt then (if -r.dly < min m.wait 0 - 1 then ⟨m.tap, min m.wait 0 - 1⟩ else ⟨min (m.tap + 1) r.hi, 0⟩)
 else (if max m.wait 0 + 1 < r.dly then ⟨m.tap, max m.wait 0 + 1⟩ else ⟨max (m.tap - 1) r.lo, 0⟩)
theorem act_valid {r : Reg} (hr : RegV r) {m : Mom} (hm : MomV r m) (v : Int) : MomV r (act r m v) := by
 obtain ⟨⟨h1, h2⟩, h3, h4⟩ := hm
 have := hr.d0
 have := hr.l1
 unfold act MomV
 split
 ·exact ⟨⟨h1, h2⟩, by simp only; omega, by simp only; omega⟩
 ·split
  ·split
   ·exact ⟨⟨h1, h2⟩, by simp only; omega, by simp only; omega⟩
   ·exact ⟨⟨by simp only; omega, by simp only; omega⟩, by simp only; omega, by simp only; omega⟩
  ·split
   ·exact ⟨⟨h1, h2⟩, by simp only; omega, by simp only; omega⟩
   ·exact ⟨⟨by simp only; omega, by simp only; omega⟩, by simp only; omega, by simp only; omega⟩
def vol (r : Reg) (d t : Int) : Int := d + r.stp * t
def tick (r : Reg) (d : Int) (m : Mom) : Mom := act r m (vol r d m.tap)
theorem tick_valid {r : Reg} (hr : RegV r) (d : Int) (m : Mom) (hm : MomV r m) : MomV r (tick r d m) := act_valid hr hm _
def mvT (r : Reg) (d : Int) (m : Mom) : Bool := decide (m.tap ≠ (tick r d m).tap)
def codeM (m : Mom) : Nat := ((m.tap + 40) * 40 + (m.wait + 19)).toNat
theorem codeM_lt {r : Reg} (hr : RegV r) (m : Mom) (h : MomV r m) : codeM m < 3240 := by
 obtain ⟨⟨h1, h2⟩, h3, h4⟩ := h
 have := hr.l0
 have := hr.h1
 have := hr.d1
 unfold codeM
 omega
theorem codeM_inj {r : Reg} (hr : RegV r) (a b : Mom) (ha : MomV r a) (hb : MomV r b) (h : codeM a = codeM b) : a = b := by
 obtain ⟨⟨h1, h2⟩, h3, h4⟩ := ha
 obtain ⟨⟨g1, g2⟩, g3, g4⟩ := hb
 have := hr.l0
 have := hr.h1
 have := hr.d1
 unfold codeM at h
 cases a; cases b
 simp only [Mom.mk.injEq] at *
 omega
theorem tick_bound {r : Reg} (hr : RegV r) {d : Int} {m : Mom} (hm : MomV r m) {T : Nat} (h : ∀ i j, i < j → j < T → itr (tick r d) m i ≠ itr (tick r d) m j) : T ≤ 3240 :=
 rep_bound (p := MomV r) codeM (tick_valid hr d) hm (codeM_lt hr) (codeM_inj hr) h
def setR (r : Reg) (d : Int) (m : Mom) : (Nat × Int) × Bool :=
 if lastM (tick r d) (mvT r d) m 8000 ≤ 4000 then ((lastM (tick r d) (mvT r d) m 8000, (itr (tick r d) m 8000).tap), true) else ((0, 0), false)
structure Pai where
 a : Reg
 b : Reg
 ma : Mom
 mb : Mom
deriving DecidableEq
def paiE (p : Pai) : Int := firstErr [regE p.a, regE p.b, momE p.a p.ma, momE p.b p.mb]
def volP (p : Pai) (d : Int) : Int := d + (p.a.stp * p.ma.tap + p.b.stp * p.mb.tap) / 2
def tickP (d : Int) (p : Pai) : Pai := ⟨p.a, p.b, act p.a p.ma (volP p d), act p.b p.mb (volP p d)⟩
def PaiV (p : Pai) : Prop := RegV p.a ∧ RegV p.b ∧ MomV p.a p.ma ∧ MomV p.b p.mb
theorem tickP_valid (d : Int) (p : Pai) (h : PaiV p) : PaiV (tickP d p) := ⟨h.1, h.2.1, act_valid h.1 h.2.2.1 _, act_valid h.2.1 h.2.2.2 _⟩
def mvP (d : Int) (p : Pai) : Bool := decide (p.ma.tap ≠ (tickP d p).ma.tap) || decide (p.mb.tap ≠ (tickP d p).mb.tap)
theorem tickP_bound {d : Int} {p : Pai} (hp : PaiV p) {T : Nat} (h : ∀ i j, i < j → j < T → itr (tickP d) p i ≠ itr (tickP d) p j) : T ≤ 10497600 := by
 refine rep_bound (f := tickP d) (p := fun q => (q.a = p.a ∧ q.b = p.b) ∧ PaiV q) (fun q => codeM q.ma * 3240 + codeM q.mb) (fun q hq => ⟨hq.1, tickP_valid d q hq.2⟩) ⟨⟨rfl, rfl⟩, hp⟩ (fun q hq => ?_) (fun x y hx hy he => ?_) h
 ·have h1 := codeM_lt hq.2.1 q.ma hq.2.2.2.1
  have h2 := codeM_lt hq.2.2.1 q.mb hq.2.2.2.2
  omega
 ·have h1 := codeM_lt hx.2.1 x.ma hx.2.2.2.1
  have h2 := codeM_lt hx.2.2.1 x.mb hx.2.2.2.2
  have h3 := codeM_lt hy.2.1 y.ma hy.2.2.2.1
  have h4 := codeM_lt hy.2.2.1 y.mb hy.2.2.2.2
  have e1 : codeM x.ma = codeM y.ma := by omega
  have e2 : codeM x.mb = codeM y.mb := by omega
  have g1 : x.ma = y.ma := codeM_inj hx.2.1 _ _ hx.2.2.2.1 (by have := hy.2.2.2.1; rw [hy.1.1, ← hx.1.1] at this; exact this) e1
  have g2 : x.mb = y.mb := codeM_inj hx.2.2.1 _ _ hx.2.2.2.2 (by have := hy.2.2.2.2; rw [hy.1.2, ← hx.1.2] at this; exact this) e2
  obtain ⟨⟨a1, a2⟩, _⟩ := hx
  obtain ⟨⟨b1, b2⟩, _⟩ := hy
  cases x; cases y
  simp only at *
  subst g1 g2
  rw [a1, a2, b1, b2]
/- Regulators and moments: the reference's errors. -/
open Go.RowKit
set_option linter.unusedSimpArgs false
set_option maxHeartbeats 2000000 in
set_option maxRecDepth 100000 in
theorem rRegulatorErr_any (r : Reg) (w : World) :
    Calls Tryz.prog 43 #[.agg #[.int .i64 r.tgt, .int .i64 r.band, .int .i64 r.dly, .int .i64 r.stp, .int .i64 r.lo, .int .i64 r.hi]] w fun e' w' => e' = .returned (.int .i64 (regE r)) ∧ Below w.heap.size w w' := by
 have HWI := Lib.hid (fun (n lo hi : Int) w' => bwithin_any n lo hi w')
 obtain ⟨E, hE⟩ : ∃ E, E = regE r := ⟨_, rfl⟩
 rw [← hE]
 have hE2 : E = if (wi r.tgt (-10000) 10000 && wi r.band 0 10000 && wi r.dly 1 20 && wi r.stp 1 10000 && wi r.lo (-40) 40 && wi r.hi (-40) 40) = true then (if r.lo ≤ r.hi then 0 else 9) else 2 := by
  rw [hE]
  unfold regE regB
  cases wi r.tgt (-10000) 10000 && wi r.band 0 10000 && wi r.dly 1 20 && wi r.stp 1 10000 && wi r.lo (-40) 40 && wi r.hi (-40) 40
  ·simp [firstErr, unl]
  ·by_cases h : r.lo ≤ r.hi <;> simp [firstErr, unl, h]
 obtain ⟨tgt, band, dly, stp, lo, hi⟩ := r
 simp only at hE2 ⊢
 have HE := Lib.hid hE2
 clear hE hE2
 go_enter Tryz.func43, Tryz.ntmps43
 cases h1 : wi tgt (-10000) 10000
 ·skip
  go_wp2_with (go_at_call 45; refine (HWI.out _ _ _ _).mono ?_; rintro e5 w5 ⟨rfl, rfl⟩)
  go_ret
  exact ⟨by rw [HE.out, h1]; rfl, by (first|exact bwg|go_size)⟩
 cases h2 : wi band 0 10000
 ·skip
  go_wp2_with (go_at_call 45; refine (HWI.out _ _ _ _).mono ?_; rintro e5 w5 ⟨rfl, rfl⟩)
  go_ret
  exact ⟨by rw [HE.out, h1, h2]; rfl, by (first|exact bwg|go_size)⟩
 cases h3 : wi dly 1 20
 ·skip
  go_wp2_with (go_at_call 45; refine (HWI.out _ _ _ _).mono ?_; rintro e5 w5 ⟨rfl, rfl⟩)
  go_ret
  exact ⟨by rw [HE.out, h1, h2, h3]; rfl, by (first|exact bwg|go_size)⟩
 cases h4 : wi stp 1 10000
 ·skip
  go_wp2_with (go_at_call 45; refine (HWI.out _ _ _ _).mono ?_; rintro e5 w5 ⟨rfl, rfl⟩)
  go_ret
  exact ⟨by rw [HE.out, h1, h2, h3, h4]; rfl, by (first|exact bwg|go_size)⟩
 cases h5 : wi lo (-40) 40
 ·skip
  go_wp2_with (go_at_call 45; refine (HWI.out _ _ _ _).mono ?_; rintro e5 w5 ⟨rfl, rfl⟩)
  go_ret
  exact ⟨by rw [HE.out, h1, h2, h3, h4, h5]; rfl, by (first|exact bwg|go_size)⟩
 cases h6 : wi hi (-40) 40
 ·skip
  go_wp2_with (go_at_call 45; refine (HWI.out _ _ _ _).mono ?_; rintro e5 w5 ⟨rfl, rfl⟩)
  go_ret
  exact ⟨by rw [HE.out, h1, h2, h3, h4, h5, h6]; rfl, by (first|exact bwg|go_size)⟩
 by_cases h7 : lo ≤ hi
 ·have h8 : ¬ hi < lo := by omega
  go_wp2_with (go_at_call 45; refine (HWI.out _ _ _ _).mono ?_; rintro e5 w5 ⟨rfl, rfl⟩)
  go_ret
  exact ⟨by rw [HE.out, h1, h2, h3, h4, h5, h6]; simp [h7], by (first|exact bwg|go_size)⟩
 ·have h8 : hi < lo := by omega
  go_wp2_with (go_at_call 45; refine (HWI.out _ _ _ _).mono ?_; rintro e5 w5 ⟨rfl, rfl⟩)
  go_ret
  exact ⟨by rw [HE.out, h1, h2, h3, h4, h5, h6]; simp [h7], by (first|exact bwg|go_size)⟩
set_option maxHeartbeats 2000000 in
set_option maxRecDepth 100000 in
theorem rMomentErr_any (r : Reg) (m : Mom) (w : World) (hr : RegV r) :
    Calls Tryz.prog 44 #[.agg #[.int .i64 r.tgt, .int .i64 r.band, .int .i64 r.dly, .int .i64 r.stp, .int .i64 r.lo, .int .i64 r.hi], .agg #[.int .i64 m.tap, .int .i64 m.wait]] w fun e' w' => e' = .returned (.int .i64 (momE r m)) ∧ Below w.heap.size w w' := by
 have HWI := Lib.hid (fun (n lo hi : Int) w' => bwithin_any n lo hi w')
 obtain ⟨E, hE⟩ : ∃ E, E = momE r m := ⟨_, rfl⟩
 have g1 := hr.d0
 have g2 := hr.d1
 rw [← hE]
 unfold momE unl at hE
 obtain ⟨tgt, band, dly, stp, lo, hi⟩ := r
 obtain ⟨tap, wait⟩ := m
 simp only at hE g1 g2 ⊢
 have HE := Lib.hid hE
 have v1 : IntKind.i64.wrap (1 - dly) = 1 - dly := by rw [IntKind.wrap_i64]; omega
 have v2 : IntKind.i64.wrap (dly - 1) = dly - 1 := by rw [IntKind.wrap_i64]; omega
 clear hE hr g1 g2
 go_enter Tryz.func44, Tryz.ntmps44
 cases h1 : wi tap lo hi
 ·skip
  go_wp2_with (go_at_call 45; refine (HWI.out _ _ _ _).mono ?_; rintro e5 w5 ⟨rfl, rfl⟩)
  go_ret
  exact ⟨by rw [HE.out, h1]; rfl, by (first|exact bwg|go_size)⟩
 cases h2 : wi wait (1 - dly) (dly - 1)
 ·skip
  go_wp2_with (go_at_call 45; refine (HWI.out _ _ _ _).mono ?_; rintro e5 w5 ⟨rfl, rfl⟩)
  go_ret
  exact ⟨by rw [HE.out, h1, h2]; rfl, by (first|exact bwg|go_size)⟩
 ·skip
  go_wp2_with (go_at_call 45; refine (HWI.out _ _ _ _).mono ?_; rintro e5 w5 ⟨rfl, rfl⟩)
  go_ret
  exact ⟨by rw [HE.out, h1, h2]; rfl, by (first|exact bwg|go_size)⟩
set_option maxHeartbeats 2000000 in
theorem rSwingErr_any (d : Int) (w : World) : Calls Tryz.prog 10 #[.int .i64 d] w fun e' w' => e' = .returned (.int .i64 (swE d)) ∧ Below w.heap.size w w' := by
 have HWI := Lib.hid (fun (n lo hi : Int) w' => bwithin_any n lo hi w')
 obtain ⟨E, hE⟩ : ∃ E, E = swE d := ⟨_, rfl⟩
 rw [← hE]
 unfold swE unl at hE
 have HE := Lib.hid hE
 clear hE
 go_enter Tryz.func10, Tryz.ntmps10
 cases h1 : wi d (-10000) 10000
 ·skip
  go_wp2_with (go_at_call 45; refine (HWI.out _ _ _ _).mono ?_; rintro e5 w5 ⟨rfl, rfl⟩)
  go_ret
  exact ⟨by rw [HE.out, h1]; rfl, by (first|exact bwg|go_size)⟩
 ·skip
  go_wp2_with (go_at_call 45; refine (HWI.out _ _ _ _).mono ?_; rintro e5 w5 ⟨rfl, rfl⟩)
  go_ret
  exact ⟨by rw [HE.out, h1]; rfl, by (first|exact bwg|go_size)⟩
/- A region that draws its order, by a tree of schedules: reads first, forced operations, and forks where one of two comes. -/
inductive Sch where
 | done : Sch
 | head : Nat → Sch → Sch
 | one : Nat → Sch → Sch
 | two : Nat → Sch → Nat → Sch → Sch
 | three : Nat → Sch → Nat → Sch → Nat → Sch → Sch
def Sch.depth : Sch → Nat
 | .done => 0
 | .head _ k => k.depth + 1
 | .one _ k => k.depth + 1
 | .two _ k _ l => max k.depth l.depth + 1
 | .three _ k _ l _ n => max k.depth (max l.depth n.depth) + 1
section
variable {P : Program} {l : List Oper} {md : Region.Mode} {S : World → Prop} {Q : Exit → Act → World → Prop}
def treeB (md : Region.Mode) (ops : Array Oper) : Sch → Array Bool → Bool
 | .done, listed => decide (Region.ready md ops listed = [])
 | .head h k, listed => (Region.ready md ops listed).contains h && Region.free md ops listed h && (match ops[h]? with | some o => plainOp o | none => false) && treeB md ops k (listed.setIfInBounds h true)
 | .one t k, listed => decide (Region.ready md ops listed = [t]) && decide (t < ops.size) && treeB md ops k (listed.setIfInBounds t true)
 | .two i k j m, listed => decide (Region.ready md ops listed = [i, j]) && decide (i < ops.size) && decide (j < ops.size) && treeB md ops k (listed.setIfInBounds i true) && treeB md ops m (listed.setIfInBounds j true)
 | .three i k j m t n, listed => decide (Region.ready md ops listed = [i, j, t]) && decide (i < ops.size) && decide (j < ops.size) && decide (t < ops.size) && treeB md ops k (listed.setIfInBounds i true) && treeB md ops m (listed.setIfInBounds j true) && treeB md ops n (listed.setIfInBounds t true)
def wpTree (P : Program) (l : List Oper) (S : World → Prop) (Q : Exit → Act → World → Prop) : Sch → Act → World → Prop
 | .done, a, w => Q .normal a w
 | .head h k, a, w => match l[h]? with | some o => wpQuiet P l.toArray S (fun a' => wpTree P l S Q k a' w) [o] a | none => False
 | .one t k, a, w => match l[t]? with | some o => wpList P l.toArray (tailQ S Q (wpTree P l S Q k)) [o] a w | none => False
 | .two i k j m, a, w => (match l[i]? with | some o => wpList P l.toArray (tailQ S Q (wpTree P l S Q k)) [o] a w | none => False) ∧
     (match l[j]? with | some o => wpList P l.toArray (tailQ S Q (wpTree P l S Q m)) [o] a w | none => False)
 | .three i k j m t n, a, w => (match l[i]? with | some o => wpList P l.toArray (tailQ S Q (wpTree P l S Q k)) [o] a w | none => False) ∧
     (match l[j]? with | some o => wpList P l.toArray (tailQ S Q (wpTree P l S Q m)) [o] a w | none => False) ∧
     (match l[t]? with | some o => wpList P l.toArray (tailQ S Q (wpTree P l S Q n)) [o] a w | none => False)
theorem tree_anyH (hsel : Region.noSelect l.toArray = true) : ∀ (s : Sch) (fuel : Nat) (listed : Array Bool) (a : Act) (w : World), s.depth ≤ fuel → treeB md l.toArray s listed = true → S w →
    wpTree P l S Q s a w → wpAnyH P md l.toArray (NoPanic Q) S fuel listed a w
 | .done, fuel, listed, a, w, _, hB, _, h => by
  simp only [treeB, decide_eq_true_eq] at hB
  exact wpAnyH_done (Q := NoPanic Q) hB h fuel
 | .head x k, 0, listed, a, w, hd, _, _, _ => by simp [Sch.depth] at hd
 | .one x k, 0, listed, a, w, hd, _, _, _ => by simp [Sch.depth] at hd
 | .two x k y m, 0, listed, a, w, hd, _, _, _ => by simp [Sch.depth] at hd
 | .three x k y m t n, 0, listed, a, w, hd, _, _, _ => by simp [Sch.depth] at hd
 | .head x k, fuel + 1, listed, a, w, hd, hB, hS, h => by
  simp only [treeB, Bool.and_eq_true] at hB
  simp only [Sch.depth] at hd
  have hx : x < l.length := by
   have h2 := hB.1.2
   by_cases hx : x < l.length
   ·exact hx
   ·rw [Array.getElem?_eq_none (by simpa using hx)] at h2; cases h2
  have ho : l.toArray[x]? = some l[x] := by simp [hx]
  have ho' : l[x]? = some l[x] := by simp [hx]
  rw [ho] at hB
  simp only [wpTree, ho'] at h
  have hst : qOp P l.toArray S x (wpQuiet P l.toArray S (fun a' => wpTree P l S Q k a' w) []) a := by unfold qOp; simp only [ho]; exact h
  obtain ⟨v, hy, hK⟩ := yieldsIn_of_qOp ho hst
  exact wpAnyH_take ho hsel hB.1.1.2 hB.1.1.1 (fun _ _ _ h => h.elim) (yieldsIf_of_in hB.1.2 hy) hS (tree_anyH hsel k fuel _ _ w (by omega) hB.2 hS hK)
 | .one t k, fuel + 1, listed, a, w, hd, hB, hS, h => by
  simp only [treeB, Bool.and_eq_true, decide_eq_true_eq] at hB
  simp only [Sch.depth] at hd
  have ht : t < l.length := by simpa using hB.1.2
  have ho : l.toArray[t]? = some l[t] := by simp [ht]
  have ho' : l[t]? = some l[t] := by simp [ht]
  simp only [wpTree, ho'] at h
  refine wpAnyH_all hB.1.1 (by simp) (fun i hi => ?_)
  have hit : i = t := by simpa using hi
  subst hit
  exact wpOp_mono (fun a' w' hh => ⟨hh.1, tree_anyH hsel k fuel _ a' w' (by omega) hB.2 hh.1 hh.2⟩) (wpOp_of_tail ho h)
 | .two x k y m, fuel + 1, listed, a, w, hd, hB, hS, h => by
  simp only [treeB, Bool.and_eq_true, decide_eq_true_eq] at hB
  simp only [Sch.depth] at hd
  obtain ⟨⟨⟨⟨hr, hx⟩, hy⟩, hk⟩, hm⟩ := hB
  have hx' : x < l.length := by simpa using hx
  have hy' : y < l.length := by simpa using hy
  have ho : l.toArray[x]? = some l[x] := by simp [hx']
  have ho' : l[x]? = some l[x] := by simp [hx']
  have hq : l.toArray[y]? = some l[y] := by simp [hy']
  have hq' : l[y]? = some l[y] := by simp [hy']
  simp only [wpTree, ho', hq'] at h
  refine wpAnyH_all hr (by simp) (fun i hi => ?_)
  rcases (by simpa using hi : i = x ∨ i = y) with rfl | rfl
  ·exact wpOp_mono (fun a' w' hh => ⟨hh.1, tree_anyH hsel k fuel _ a' w' (by omega) hk hh.1 hh.2⟩) (wpOp_of_tail ho h.1)
  ·exact wpOp_mono (fun a' w' hh => ⟨hh.1, tree_anyH hsel m fuel _ a' w' (by omega) hm hh.1 hh.2⟩) (wpOp_of_tail hq h.2)
 | .three x k y m z n, fuel + 1, listed, a, w, hd, hB, hS, h => by
  simp only [treeB, Bool.and_eq_true, decide_eq_true_eq] at hB
  simp only [Sch.depth] at hd
  obtain ⟨⟨⟨⟨⟨⟨hr, hx⟩, hy⟩, hz⟩, hk⟩, hm⟩, hn⟩ := hB
  have hx' : x < l.length := by simpa using hx
  have hy' : y < l.length := by simpa using hy
  have hz' : z < l.length := by simpa using hz
  have ho : l.toArray[x]? = some l[x] := by simp [hx']
  have ho' : l[x]? = some l[x] := by simp [hx']
  have hq : l.toArray[y]? = some l[y] := by simp [hy']
  have hq' : l[y]? = some l[y] := by simp [hy']
  have hp : l.toArray[z]? = some l[z] := by simp [hz']
  have hp' : l[z]? = some l[z] := by simp [hz']
  simp only [wpTree, ho', hq', hp'] at h
  refine wpAnyH_all hr (by simp) (fun i hi => ?_)
  rcases (by simpa using hi : i = x ∨ i = y ∨ i = z) with rfl | rfl | rfl
  ·exact wpOp_mono (fun a' w' hh => ⟨hh.1, tree_anyH hsel k fuel _ a' w' (by omega) hk hh.1 hh.2⟩) (wpOp_of_tail ho h.1)
  ·exact wpOp_mono (fun a' w' hh => ⟨hh.1, tree_anyH hsel m fuel _ a' w' (by omega) hm hh.1 hh.2⟩) (wpOp_of_tail hq h.2.1)
  ·exact wpOp_mono (fun a' w' hh => ⟨hh.1, tree_anyH hsel n fuel _ a' w' (by omega) hn hh.1 hh.2⟩) (wpOp_of_tail hp h.2.2)
def treeOk (ops : Array Oper) (s : Sch) : Bool :=
 Region.noSelect ops && decide (s.depth ≤ ops.size) && treeB .any ops s (Array.replicate ops.size false)
theorem wp_region_tree {id : Nat} {a : Act} {w : World} (s : Sch) (S : World → Prop) (hm : P.follows .mixedOrders = true) (hB : treeOk l.toArray s = true) (hS : S w.drew)
    (h : wpTree P l S Q s a w.drew) : (Code.region id l.toArray true).wp P Q a w := by
 simp only [treeOk, Bool.and_eq_true, decide_eq_true_eq] at hB
 refine wp_region_noPanic (wp_region_held (S := S) hm ?_)
 exact tree_anyH hB.1.1 s _ _ a _ hB.1.2 hB.2 hS h
theorem wp_region_laterT {B : Nat} {id : Nat} {a : Act} {w : World} (s : Sch) (hm : P.follows .mixedOrders = true) (hB : treeOk l.toArray s = true)
    (h : wpTree P l (fun w' => ∃ u : LaterB B w, w' = u.world) Q s a w.drew) : (Code.region id l.toArray true).wp P Q a w :=
 wp_region_tree s _ hm hB ⟨⟨_, (Below.refl B w).drew⟩, rfl⟩ h
theorem tree_head {h : Nat} {o : Oper} {k : Sch} {a : Act} {w : World} (ho : l[h]? = some o) (hh : wpQuiet P l.toArray S (fun a' => wpTree P l S Q k a' w) [o] a) : wpTree P l S Q (.head h k) a w := by
 simp only [wpTree, ho]; exact hh
theorem tree_one {t : Nat} {o : Oper} {k : Sch} {a : Act} {w : World} (ho : l[t]? = some o) (hh : wpList P l.toArray (tailQ S Q (wpTree P l S Q k)) [o] a w) : wpTree P l S Q (.one t k) a w := by
 simp only [wpTree, ho]; exact hh
theorem tree_two {i j : Nat} {o o2 : Oper} {k m : Sch} {a : Act} {w : World} (ho : l[i]? = some o) (hq : l[j]? = some o2) (h1 : wpList P l.toArray (tailQ S Q (wpTree P l S Q k)) [o] a w) (h2 : wpList P l.toArray (tailQ S Q (wpTree P l S Q m)) [o2] a w) : wpTree P l S Q (.two i k j m) a w := by
 simp only [wpTree, ho, hq]; exact ⟨h1, h2⟩
theorem tree_done {a : Act} {w : World} (h : Q .normal a w) : wpTree P l S Q .done a w := h
end
end Go.Proofs.YtdjinmieogpgcaaGreat
