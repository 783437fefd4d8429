import Derived.Test.YtdjinmieogpgcaaGreatTKep
/- Invariants: the program. -/
namespace Go.Proofs.YtdjinmieogpgcaaGreat
open Go.RowKit Go.Shelf
set_option linter.unusedVariables false
set_option linter.unusedSimpArgs false
def cinX (m : Mac) (l : Lim) (L : List Int) : Int × Int := if opnE m l ≠ 0 then (0, opnE m l) else invX m l L
set_option maxHeartbeats 4000000 in
set_option maxRecDepth 100000 in
theorem checkInvariant_any (m : Mac) (l : Lim) (L : List Int) (ac ab ag : Option Addr) (n cc nb cb ng cg : Nat) (w : World) (hb : BrR w ab nb m.br) (hg : GrR w ag ng m.gs) (hc : IntsR w ac n L) (hn : n ≤ 100) :
    Calls Tryz.prog 17 #[.agg #[.slice ab nb cb, .int .i64 m.st, .slice ag ng cg], .agg #[.int .i64 l.volt, .int .i64 l.lo, .int .i64 l.hi, .int .i64 l.circ, .int .i64 l.brk, .int .i64 l.ret], .slice ac n cc] w
     fun e' w' => e' = .returned (.tuple #[.int .i64 (cinX m l L).1, .int .i64 (cinX m l L).2]) ∧ Below w.heap.size w w' := by
 have HO := Lib.hid (fun (W : World) (hbw : Below w.heap.size w W) => open_any m l ab ag nb cb ng cg W (hb.below hbw) (hg.below hbw))
 have HKE := Lib.hid (fun (h : opnE m l = 0) (k : Nat) (hk : k < n) (W : World) (hbw : Below w.heap.size w W) => keeps_any m l L k ac ab ag n cc nb cb ng cg W (opnE_zero h).1 (opnE_zero h).2 (hb.below hbw) (hg.below hbw) (hc.below hbw) hk hn)
 have HCN := Lib.hid (fun (W : World) (hbw : Below w.heap.size w W) => cntContains_any m.st L ac n cc W (hc.below hbw))
 have HHI := Lib.hid (fun (k : Nat) (hk : k < n) (h0 : ∀ j, j < k → kepE m l L j = 0) (h : kepE m l L k ≠ 0) => invX_hit (by rw [hc.len]; exact hk) h0 h)
 have HEN := Lib.hid (fun (h0 : ∀ j, j < n → kepE m l L j = 0) => invX_end (by rw [hc.len]; exact h0))
 have hV : cinX m l L = if opnE m l ≠ 0 then (0, opnE m l) else invX m l L := rfl
 rw [show firstErr [(macE m).2, limE l] = opnE m l from rfl] at HO
 generalize cinX m l L = V at *
 generalize opnE m l = E at *
 generalize invX m l L = IX at *
 generalize kepE m l L = KE at *
 have HV := Lib.hid hV
 obtain ⟨vo, lo, hi, ci, br, re⟩ := l
 obtain ⟨st, hst⟩ : ∃ x, x = m.st := ⟨_, rfl⟩
 rw [← hst] at HO HKE HCN HEN ⊢
 simp only at HO HKE ⊢
 generalize L.any (fun q : Int => decide (st = q)) = HA at *
 clear hb hg hst hV hc
 go_enter Tryz.func17, Tryz.ntmps17
 go_upto_region 1 with (fail)
 obtain ⟨w2, hW2⟩ : ∃ w2, w2 = (w.alloc (Obj.cells #[.slice ab nb cb, .int .i64 st, .slice ag ng cg] 45)).alloc (Obj.cells #[.int .i64 vo, .int .i64 lo, .int .i64 hi, .int .i64 ci, .int .i64 br, .int .i64 re] 47) := ⟨_, rfl⟩
 obtain ⟨hb2, k3, k4⟩ := alA2 w (Obj.cells #[.slice ab nb cb, .int .i64 st, .slice ag ng cg] 45) (Obj.cells #[.int .i64 vo, .int .i64 lo, .int .i64 hi, .int .i64 ci, .int .i64 br, .int .i64 re] 47)
 rw [← hW2] at hb2 k3 k4
 rw [← hW2]
 obtain ⟨X3, hX3⟩ : ∃ X, X = w.heap.size := ⟨_, rfl⟩
 obtain ⟨X4, hX4⟩ : ∃ X, X = w.heap.size + 1 := ⟨_, rfl⟩
 rw [← hX3] at k3
 rw [← hX4] at k4
 simp only [← hX4]
 simp only [← hX3]
 obtain ⟨c3, c3_1, c3_2, l3⟩ := blkc3 k3
 obtain ⟨c4, c4_1, c4_2, c4_3, c4_4, c4_5, l4⟩ := blkc6 k4
 have K3 := Lib.hid k3
 have HB2 := Lib.hid hb2
 clear hW2 hX3 hX4 hb2 k3 k4
 go_wp2_with fail
 refine (HO.out _ HB2.out).mono ?_
 rintro e5 w5 ⟨rfl, hb5⟩
 have HB5 := bwt HB2 hb5
 have K3 := Lib.hid (K3.out.below hb5)
 clear hb5 HO HB2 c3 c3_1 c3_2 l3 c4 c4_1 c4_2 c4_3 c4_4 c4_5 l4
 go_upto_region 2 with (fail)
 obtain ⟨w6, hW⟩ : ∃ w6, w6 = w5.alloc (Obj.cells #[.slice ab nb cb, .int .i64 st, .slice ag ng cg, .int .i64 vo, .int .i64 lo, .int .i64 hi, .int .i64 ci, .int .i64 br, .int .i64 re] 100) := ⟨_, rfl⟩
 obtain ⟨hb6, k8⟩ := alA1 w5 (Obj.cells #[.slice ab nb cb, .int .i64 st, .slice ag ng cg, .int .i64 vo, .int .i64 lo, .int .i64 hi, .int .i64 ci, .int .i64 br, .int .i64 re] 100)
 rw [← hW] at hb6 k8
 rw [← hW]
 obtain ⟨X8, hX8⟩ : ∃ X, X = w5.heap.size := ⟨_, rfl⟩
 rw [← hX8] at k8
 simp only [← hX8]
 have HB6 := bwt HB5 hb6
 have K3 := Lib.hid (K3.out.below hb6)
 have K8 := Lib.hid k8
 clear hW hX8 hb6 k8 HB5
 by_cases h0 : E = 0
 rotate_left
 ·have hV := HV.out
  rw [if_pos h0] at hV
  have e1 := bne_iff_ne.2 h0
  clear h0 HKE HHI HEN HCN
  go_wp2
  go_ret2
  exact ⟨by rw [hV]; rfl, HB6.out⟩
 subst h0
 have HV := Lib.hid (HV.out.trans (if_neg (by simp)))
 have HKE1 := Lib.hid (HKE.out rfl)
 clear HKE
 go_wp2_with fail
 go_loopw [9, 10, 22] (fun v9 v10 v22 wr => ∃ k : Nat, v22 = .int .i64 (k : Int) ∧ v9 = .int .i64 0 ∧ k ≤ n ∧ Hid (∀ j, j < k → KE j = 0) ∧ Hid (BlkR wr X3 (.cells #[.slice ab nb cb, .int .i64 st, .slice ag ng cg] 45)) ∧ Hid (BlkR wr X8 (.cells #[.slice ab nb cb, .int .i64 st, .slice ag ng cg, .int .i64 vo, .int .i64 lo, .int .i64 hi, .int .i64 ci, .int .i64 br, .int .i64 re] 100)) ∧ Hid (Below w.heap.size w wr)) (fun _ _ x _ => n - (intOf x).toNat)
 case atStart => exact ⟨0, rfl, rfl, Nat.zero_le _, Lib.hid (fun j h => absurd h (by omega)), K3, K8, HB6⟩
 case round =>
  clear K3 K8 HB6
  obtain ⟨k, rfl, rfl, hk, HK0, K3, K8, HB⟩ := hrel
  have i0 : (0 : Int) ≤ (k : Int) := by omega
  by_cases hlt : k < n
  ·have i1 : (k : Int) < (n : Int) := by omega
   obtain ⟨c8, c8_1, c8_2, c8_3, c8_4, c8_5, c8_6, c8_7, c8_8, l8⟩ := blkc9 K8.out
   go_wp2_with fail
   refine (HKE1.out k hlt _ HB.out).mono ?_
   rintro e7 w7 ⟨rfl, hb7⟩
   have HB := bwt HB hb7
   have K3 := Lib.hid (K3.out.below hb7)
   have K8 := Lib.hid (K8.out.below hb7)
   clear hb7 c8 c8_1 c8_2 c8_3 c8_4 c8_5 c8_6 c8_7 c8_8 l8
   have HHk := Lib.hid (fun h => HHI.out k hlt HK0.out h)
   have HKS := Lib.hid (fun (h : KE k = 0) => show ∀ j, j < k + 1 → KE j = 0 from fun j hj => by
    by_cases hjk : j = k
    ·subst hjk; exact h
    ·exact HK0.out j (by omega))
   generalize hKK : KE k = KK at *
   by_cases hz : KK = 0
   ·subst hz
    go_wp2
    refine ⟨⟨k + 1, by go_num, by first | rfl | trivial, by omega, Lib.hid (HKS.out (by first | rfl | trivial)), K3, K8, HB⟩, ?_⟩
    simp only [intOf]; omega
   ·have e1 := bne_iff_ne.2 hz
    have hX := HHk.out hz
    have hV := HV.out
    clear hKK hz HHk HKS HKE1 HHI HEN HCN
    go_wp2
    go_ret2
    exact ⟨by rw [hV, hX]; rfl, HB.out⟩
  ·obtain rfl : k = n := by omega
   have hE := HEN.out HK0.out
   have hV := HV.out
   obtain ⟨c3, c3_1, c3_2, l3⟩ := blkc3 K3.out
   clear HKE1 HHI HEN
   go_wp2_with fail
   refine (HCN.out _ HB.out).mono ?_
   rintro e7 w7 ⟨rfl, rfl⟩
   go_wp2_with fail
   refine (t_unless_any _ _ _).mono ?_
   rintro e8 w8 ⟨rfl, rfl⟩
   go_wp2
   go_ret2
   exact ⟨by rw [hV, hE]; rfl, HB.out⟩
/- Regulators, moments and pairs, in plain words. No program in sight. -/
structure Reg where
 tgt : Int
 band : Int
 dly : Int
 stp : Int
 lo : Int
 hi : Int
deriving DecidableEq
structure Mom where
 tap : Int
 wait : Int
deriving DecidableEq
def regB (r : Reg) : Bool := wi r.tgt (-10000) 10000 && wi r.band 0 10000 && wi r.dly 1 20 && wi r.stp 1 10000 && wi r.lo (-40) 40 && wi r.hi (-40) 40
def regE (r : Reg) : Int := firstErr [unl (regB r) 2, unl (decide (r.lo ≤ r.hi)) 9]
def momE (r : Reg) (m : Mom) : Int := unl (wi m.tap r.lo r.hi && wi m.wait (1 - r.dly) (r.dly - 1)) 2
def swE (d : Int) : Int := unl (wi d (-10000) 10000) 2
theorem unl_zero' {b : Bool} {e : Int} (he : e ≠ 0) : unl b e = 0 ↔ b = true := by
 unfold unl; cases b <;> simp [he]
theorem firstErr_zero' {x : Int} {r : List Int} : firstErr (x :: r) = 0 ↔ x = 0 ∧ firstErr r = 0 := by
 show (if x = 0 then firstErr r else x) = 0 ↔ _
 split
 ·next h => simp [h]
 ·next h => simp [h]
structure RegV (r : Reg) : Prop where
 t0 : -10000 ≤ r.tgt
 t1 : r.tgt ≤ 10000
 b0 : 0 ≤ r.band
 b1 : r.band ≤ 10000
 d0 : 1 ≤ r.dly
 d1 : r.dly ≤ 20
 s0 : 1 ≤ r.stp
 s1 : r.stp ≤ 10000
 l0 : -40 ≤ r.lo
 l1 : r.lo ≤ r.hi
 h1 : r.hi ≤ 40
def MomV (r : Reg) (m : Mom) : Prop := (r.lo ≤ m.tap ∧ m.tap ≤ r.hi) ∧ 1 - r.dly ≤ m.wait ∧ m.wait ≤ r.dly - 1
theorem regE_zero {r : Reg} : regE r = 0 ↔ RegV r := by
 unfold regE regB
 rw [firstErr_zero', firstErr_zero', unl_zero' (by decide), unl_zero' (by decide)]
 simp only [Bool.and_eq_true, wi_iff, decide_eq_true_eq]
 constructor
 ·rintro ⟨⟨⟨⟨⟨⟨a, b⟩, c⟩, d⟩, e⟩, f⟩, g, _⟩
  exact ⟨a.1, a.2, b.1, b.2, c.1, c.2, d.1, d.2, e.1, g, f.2⟩
 ·intro h
  exact ⟨⟨⟨⟨⟨⟨⟨h.t0, h.t1⟩, h.b0, h.b1⟩, h.d0, h.d1⟩, h.s0, h.s1⟩, h.l0, by have := h.l1; have := h.h1; omega⟩, by have := h.l0; have := h.l1; omega, h.h1⟩, h.l1, rfl⟩
theorem momE_zero {r : Reg} {m : Mom} : momE r m = 0 ↔ MomV r m := by
 unfold momE MomV
 rw [unl_zero' (by decide)]
 simp only [Bool.and_eq_true, wi_iff]
theorem swE_zero {d : Int} : swE d = 0 ↔ -10000 ≤ d ∧ d ≤ 10000 := by
 unfold swE
 rw [unl_zero' (by decide), wi_iff]
def act (r : Reg) (m : Mom) (v : Int) : Mom :=
 if r.tgt - r.band ≤ v ∧ v ≤ r.tgt + r.band then ⟨m.tap, 0⟩
 else if v < r.tgt then (if -r.dly < min m.wait 0 - 1 then ⟨m.tap, min m.wait 0 - 1⟩ else ⟨min (m.tap + 1) r.hi, 0⟩)
 else (if max m.wait 0 + 1 < r.dly then ⟨m.tap, max m.wait 0 + 1⟩ else ⟨max (m.tap - 1) r.lo, 0⟩)
theorem act_valid {r : Reg} (hr : RegV r) {m : Mom} (hm : MomV r m) (v : Int) : MomV r (act r m v) := by
 obtain ⟨⟨h1, h2⟩, h3, h4⟩ := hm
 have := hr.d0
 have := hr.l1
 unfold act MomV
 split
 ·exact ⟨⟨h1, h2⟩, by simp only; omega, by simp only; omega⟩
 ·split
  ·split
   ·exact ⟨⟨h1, h2⟩, by simp only; omega, by simp only; omega⟩
   ·exact ⟨⟨by simp only; omega, by simp only; omega⟩, by simp only; omega, by simp only; omega⟩
  ·split
   ·exact ⟨⟨h1, h2⟩, by simp only; omega, by simp only; omega⟩
   ·exact ⟨⟨by simp only; omega, by simp only; omega⟩, by simp only; omega, by simp only; omega⟩
def vol (r : Reg) (d t : Int) : Int := d + r.stp * t
def tick (r : Reg) (d : Int) (m : Mom) : Mom := act r m (vol r d m.tap)
theorem tick_valid {r : Reg} (hr : RegV r) (d : Int) (m : Mom) (hm : MomV r m) : MomV r (tick r d m) := act_valid hr hm _
def mvT (r : Reg) (d : Int) (m : Mom) : Bool := decide (m.tap ≠ (tick r d m).tap)
def codeM (m : Mom) : Nat := ((m.tap + 40) * 40 + (m.wait + 19)).toNat
theorem codeM_lt {r : Reg} (hr : RegV r) (m : Mom) (h : MomV r m) : codeM m < 3240 := by
 obtain ⟨⟨h1, h2⟩, h3, h4⟩ := h
 have := hr.l0
 have := hr.h1
 have := hr.d1
 unfold codeM
 omega
theorem codeM_inj {r : Reg} (hr : RegV r) (a b : Mom) (ha : MomV r a) (hb : MomV r b) (h : codeM a = codeM b) : a = b := by
 obtain ⟨⟨h1, h2⟩, h3, h4⟩ := ha
 obtain ⟨⟨g1, g2⟩, g3, g4⟩ := hb
 have := hr.l0
 have := hr.h1
 have := hr.d1
 unfold codeM at h
 cases a; cases b
 simp only [Mom.mk.injEq] at *
 omega
theorem tick_bound {r : Reg} (hr : RegV r) {d : Int} {m : Mom} (hm : MomV r m) {T : Nat} (h : ∀ i j, i < j → j < T → itr (tick r d) m i ≠ itr (tick r d) m j) : T ≤ 3240 :=
 rep_bound (p := MomV r) codeM (tick_valid hr d) hm (codeM_lt hr) (codeM_inj hr) h
structure Pai where
 a : Reg
 b : Reg
 ma : Mom
 mb : Mom
deriving DecidableEq
def volP (p : Pai) (d : Int) : Int := d + (p.a.stp * p.ma.tap + p.b.stp * p.mb.tap) / 2
def tickP (d : Int) (p : Pai) : Pai := ⟨p.a, p.b, act p.a p.ma (volP p d), act p.b p.mb (volP p d)⟩
def PaiV (p : Pai) : Prop := RegV p.a ∧ RegV p.b ∧ MomV p.a p.ma ∧ MomV p.b p.mb
theorem tickP_valid (d : Int) (p : Pai) (h : PaiV p) : PaiV (tickP d p) := ⟨h.1, h.2.1, act_valid h.1 h.2.2.1 _, act_valid h.2.1 h.2.2.2 _⟩
def mvP (d : Int) (p : Pai) : Bool := decide (p.ma.tap ≠ (tickP d p).ma.tap) || decide (p.mb.tap ≠ (tickP d p).mb.tap)
theorem tickP_bound {d : Int} {p : Pai} (hp : PaiV p) {T : Nat} (h : ∀ i j, i < j → j < T → itr (tickP d) p i ≠ itr (tickP d) p j) : T ≤ 10497600 := by
 refine rep_bound (f := tickP d) (p := fun q => (q.a = p.a ∧ q.b = p.b) ∧ PaiV q) (fun q => codeM q.ma * 3240 + codeM q.mb) (fun q hq => ⟨hq.1, tickP_valid d q hq.2⟩) ⟨⟨rfl, rfl⟩, hp⟩ (fun q hq => ?_) (fun x y hx hy he => ?_) h
 ·have h1 := codeM_lt hq.2.1 q.ma hq.2.2.2.1
  have h2 := codeM_lt hq.2.2.1 q.mb hq.2.2.2.2
  omega
 ·have h1 := codeM_lt hx.2.1 x.ma hx.2.2.2.1
  have h2 := codeM_lt hx.2.2.1 x.mb hx.2.2.2.2
  have h3 := codeM_lt hy.2.1 y.ma hy.2.2.2.1
  have h4 := codeM_lt hy.2.2.1 y.mb hy.2.2.2.2
  have e1 : codeM x.ma = codeM y.ma := by omega
  have e2 : codeM x.mb = codeM y.mb := by omega
  have g1 : x.ma = y.ma := codeM_inj hx.2.1 _ _ hx.2.2.2.1 (by have := hy.2.2.2.1; rw [hy.1.1, ← hx.1.1] at this; exact this) e1
  have g2 : x.mb = y.mb := codeM_inj hx.2.2.1 _ _ hx.2.2.2.2 (by have := hy.2.2.2.2; rw [hy.1.2, ← hx.1.2] at this; exact this) e2
  obtain ⟨⟨a1, a2⟩, _⟩ := hx
  obtain ⟨⟨b1, b2⟩, _⟩ := hy
  cases x; cases y
  simp only at *
  subst g1 g2
  rw [a1, a2, b1, b2]
/- Regulators: a tick, and what is valid. The program. -/
def momV (m : Mom) : Value := .agg #[.int .i64 m.tap, .int .i64 m.wait]
theorem act_mid {r : Reg} {m : Mom} {v : Int} (h0 : r.tgt - r.band ≤ v) (h1 : v ≤ r.tgt + r.band) : act r m v = ⟨m.tap, 0⟩ := by unfold act; rw [if_pos ⟨h0, h1⟩]
theorem act_up {r : Reg} {m : Mom} {v : Int} (hr : RegV r) (hm : MomV r m) (h : r.tgt + r.band < v) : act r m v = if max 0 m.wait + 1 = r.dly then ⟨min (max (m.tap - 1) r.lo) r.hi, 0⟩ else ⟨m.tap, max 0 m.wait + 1⟩ := by
 obtain ⟨⟨a1, a2⟩, a3, a4⟩ := hm
 have := hr.b0
 have := hr.d0
 have := hr.l1
 unfold act
 rw [if_neg (by omega), if_neg (by omega)]
 by_cases hx : max m.wait 0 + 1 < r.dly
 ·rw [if_pos hx, if_neg (by omega), show max 0 m.wait = max m.wait 0 by omega]
 ·rw [if_neg hx, if_pos (by omega), show min (max (m.tap - 1) r.lo) r.hi = max (m.tap - 1) r.lo by omega]
theorem act_dn {r : Reg} {m : Mom} {v : Int} (hr : RegV r) (hm : MomV r m) (h : v < r.tgt - r.band) : act r m v = if -(max 0 (-m.wait) + 1) = -r.dly then ⟨min (max (m.tap + 1) r.lo) r.hi, 0⟩ else ⟨m.tap, -(max 0 (-m.wait) + 1)⟩ := by
 obtain ⟨⟨a1, a2⟩, a3, a4⟩ := hm
 have := hr.b0
 have := hr.d0
 have := hr.l1
 unfold act
 rw [if_neg (by omega), if_pos (by omega)]
 by_cases hx : -r.dly < min m.wait 0 - 1
 ·rw [if_pos hx, if_neg (by omega), show -(max 0 (-m.wait) + 1) = min m.wait 0 - 1 by omega]
 ·rw [if_neg hx, if_pos (by omega), show min (max (m.tap + 1) r.lo) r.hi = min (m.tap + 1) r.hi by omega]
set_option maxHeartbeats 1000000 in
set_option maxRecDepth 100000 in
theorem acted_any (r : Reg) (m : Mom) (v : Int) (w : World) (hr : RegV r) (hm : MomV r m) :
    Calls Tryz.prog 74 #[.agg #[.int .i64 r.tgt, .int .i64 r.band, .int .i64 r.dly, .int .i64 r.stp, .int .i64 r.lo, .int .i64 r.hi], .agg #[.int .i64 m.tap, .int .i64 m.wait], .int .i64 v] w fun e' w' => e' = .returned (.agg #[.int .i64 (act r m v).tap, .int .i64 (act r m v).wait]) ∧ Below w.heap.size w w' := by
 have h1 := hr.t0
 have h2 := hr.t1
 have h3 := hr.b0
 have h4 := hr.b1
 have h5 := hr.d0
 have h6 := hr.d1
 have h7 := hr.l0
 have h8 := hr.l1
 have h9 := hr.h1
 obtain ⟨⟨m1, m2⟩, m3, m4⟩ := hm
 have HM := Lib.hid (fun (h : r.tgt - r.band ≤ v ∧ v ≤ r.tgt + r.band) => act_mid (m := m) h.1 h.2)
 have HU := Lib.hid (fun (h : r.tgt + r.band < v) => act_up hr ⟨⟨m1, m2⟩, m3, m4⟩ h)
 have HD := Lib.hid (fun (h : v < r.tgt - r.band) => act_dn hr ⟨⟨m1, m2⟩, m3, m4⟩ h)
 obtain ⟨R, hR⟩ : ∃ R, R = act r m v := ⟨_, rfl⟩
 rw [← hR] at HM HU HD ⊢
 obtain ⟨tgt, band, dly, stp, lo, hi⟩ := r
 obtain ⟨tap, wait⟩ := m
 simp only at h1 h2 h3 h4 h5 h6 h7 h8 h9 m1 m2 m3 m4 HM HU HD ⊢
 clear hR hr
 have w1 : IntKind.i64.wrap (tgt + band) = tgt + band := by rw [IntKind.wrap_i64]; omega
 have w2 : IntKind.i64.wrap (tgt - band) = tgt - band := by rw [IntKind.wrap_i64]; omega
 have w3 : IntKind.i64.wrap wait = wait := by rw [IntKind.wrap_i64]; omega
 have w4 : IntKind.i64.wrap dly = dly := by rw [IntKind.wrap_i64]; omega
 have w5 : IntKind.i64.wrap (tap - 1) = tap - 1 := by rw [IntKind.wrap_i64]; omega
 have w6 : IntKind.i64.wrap (-wait) = -wait := by rw [IntKind.wrap_i64]; omega
 have w7 : IntKind.i64.wrap (-dly) = -dly := by rw [IntKind.wrap_i64]; omega
 have w8 : IntKind.i64.wrap (tap + 1) = tap + 1 := by rw [IntKind.wrap_i64]; omega
 have w8' : IntKind.i64.wrap (tap - -1) = tap + 1 := by rw [IntKind.wrap_i64]; omega
 clear h1 h2
 by_cases hu : tgt + band < v
 ·have HV := Lib.hid (HU.out hu)
  have mx : max 0 wait = if 0 < wait then wait else 0 := by split <;> omega
  clear HM HU HD mx
  have w9 : IntKind.i64.wrap (wait + 1) = wait + 1 := by rw [IntKind.wrap_i64]; omega
  go_enter Tryz.func74, Tryz.ntmps74
  go_wp2_with fail
  all_goals
   refine bodyPost_ret (by simp [results, Tryz.results74, go_sem]; rfl) rfl ⟨?_, by (first|exact bwg|go_size)⟩
   have hv := HV.out
   simp only [beq_iff_eq, bne_iff_ne, beq_eq_false_iff_ne, ne_eq, decide_eq_true_eq, decide_eq_false_iff_not] at *
   rw [hv]
   split
   ·simp <;> omega
   ·simp <;> omega
 ·by_cases hd : v < tgt - band
  ·have HV := Lib.hid (HD.out hd)
   clear HM HU HD
   have w9 : IntKind.i64.wrap (-wait + 1) = -wait + 1 := by rw [IntKind.wrap_i64]; omega
   have w10 : IntKind.i64.wrap (-(-wait + 1)) = -(-wait + 1) := by rw [IntKind.wrap_i64]; omega
   go_enter Tryz.func74, Tryz.ntmps74
   go_wp2_with fail
   all_goals
    refine bodyPost_ret (by simp [results, Tryz.results74, go_sem]; rfl) rfl ⟨?_, by (first|exact bwg|go_size)⟩
    have hv := HV.out
    simp only [beq_iff_eq, bne_iff_ne, beq_eq_false_iff_ne, ne_eq, decide_eq_true_eq, decide_eq_false_iff_not] at *
    rw [hv]
    split
    ·simp <;> omega
    ·simp <;> omega
  ·have HV := Lib.hid (HM.out ⟨by omega, by omega⟩)
   clear HM HU HD w3 w4 w5 w6 w7 w8 w8'
   go_enter Tryz.func74, Tryz.ntmps74
   go_wp2_with fail
   refine bodyPost_ret (v := .agg #[.int .i64 tap, .int .i64 0]) (by simp [results, Tryz.results74, go_sem]) rfl ⟨by rw [HV.out], by (first|exact bwg|go_size)⟩
set_option maxHeartbeats 1000000 in
set_option maxRecDepth 100000 in
theorem ticked_any (r : Reg) (m : Mom) (d : Int) (w : World) (hr : RegV r) (hm : MomV r m) (hd : -10000 ≤ d ∧ d ≤ 10000) :
    Calls Tryz.prog 104 #[.agg #[.int .i64 r.tgt, .int .i64 r.band, .int .i64 r.dly, .int .i64 r.stp, .int .i64 r.lo, .int .i64 r.hi], .agg #[.int .i64 m.tap, .int .i64 m.wait], .int .i64 d] w fun e' w' => e' = .returned (.agg #[.int .i64 (tick r d m).tap, .int .i64 (tick r d m).wait]) ∧ Below w.heap.size w w' := by
 have hp : -400000 ≤ r.stp * m.tap ∧ r.stp * m.tap ≤ 400000 := by
  have h1 := hm.1
  have h2 := hr.l0
  have h3 := hr.h1
  have h4 : (r.stp * m.tap).natAbs ≤ 10000 * 40 := by rw [Int.natAbs_mul]; exact Nat.mul_le_mul (by have := hr.s0; have := hr.s1; omega) (by omega)
  omega
 have HA := Lib.hid (fun (W : World) => acted_any r m (d + r.stp * m.tap) W hr hm)
 obtain ⟨R, hR⟩ : ∃ R, R = act r m (d + r.stp * m.tap) := ⟨_, rfl⟩
 have hT : tick r d m = R := hR.symm
 rw [← hR] at HA
 rw [hT]
 obtain ⟨tgt, band, dly, stp, lo, hi⟩ := r
 obtain ⟨tap, wait⟩ := m
 obtain ⟨R1, R2⟩ := R
 simp only at HA hp ⊢
 generalize hP : stp * tap = P at *
 have w1 : IntKind.i64.wrap P = P := by rw [IntKind.wrap_i64]; omega
 have w2 : IntKind.i64.wrap (d + P) = d + P := by rw [IntKind.wrap_i64]; omega
 clear hr hm hR hT
 go_enter Tryz.func104, Tryz.ntmps104
 go_wp2_with fail
 refine (HA.out _).mono ?_
 rintro e5 w5 ⟨rfl, hb5⟩
 have hz5 := hb5.size
 simp only [World.size_alloc] at hz5
 have k6 : w5.heap[w.heap.size + 1 + 1]? = some (.cells #[.int .i64 0, .int .i64 0] 27) := by
  rw [hb5.block _ (by simp)]
  have := heap_alloc_new ((w.alloc (Obj.cells #[.int .i64 tgt, .int .i64 band, .int .i64 dly, .int .i64 stp, .int .i64 lo, .int .i64 hi] 25)).alloc (Obj.cells #[.int .i64 tap, .int .i64 wait] 27)) (Obj.cells #[.int .i64 0, .int .i64 0] 27)
  simpa using this
 have HB5 := Lib.hid (show Below w.heap.size w w5 by (first|exact bwg|go_size))
 obtain ⟨X6, hX6⟩ : ∃ X, X = w.heap.size + 1 + 1 := ⟨_, rfl⟩
 rw [← hX6] at k6 ⊢
 have hx6 : w.heap.size ≤ X6 := by omega
 obtain ⟨y0, y1, _⟩ := blkc2 k6
 have f0 := blk_fz k6 0
 have f1 := blk_fz k6 1
 have l6 := blk_lt k6
 have HK6 := Lib.hid k6
 clear hb5 hz5 k6 hX6
 go_wp2
 have kw := blk_set (blk_set HK6.out 0 (.int .i64 R1)) 1 (.int .i64 R2)
 obtain ⟨s0, s1, _⟩ := blkc2 kw
 refine bodyPost_ret (v := .agg #[.int .i64 R1, .int .i64 R2]) (by simp [results, Tryz.results104, go_sem, s0, s1]) rfl ⟨rfl, (HB5.out.setCell hx6 _).setCell hx6 _⟩
theorem swing_any (d : Int) (w : World) : Calls Tryz.prog 73 #[.int .i64 d] w fun e' w' => e' = .returned (.int .i64 (swE d)) ∧ Below w.heap.size w w' := by
 have HS := Lib.hid (fun (W : World) => t_small_any d 10000 W (by omega) (by omega))
 unfold swE
 generalize wi d (-10000) 10000 = b at *
 go_enter Tryz.func73, Tryz.ntmps73
 go_wp2_with fail
 refine (HS.out _).mono ?_
 rintro e5 w5 ⟨rfl, rfl⟩
 go_wp2_with fail
 refine (t_unless_any _ _ _).mono ?_
 rintro e6 w6 ⟨rfl, rfl⟩
 go_wp2
 go_ret
 exact ⟨rfl, by (first|exact bwg|go_size)⟩
def momX (r : Reg) (m : Mom) : Int := unl (wi m.tap r.lo r.hi && wi m.wait (IntKind.i64.wrap (1 - r.dly)) (IntKind.i64.wrap (r.dly - 1))) 2
theorem momX_eq {r : Reg} (m : Mom) (hr : RegV r) : momX r m = momE r m := by
 have d0 := hr.d0
 have d1 := hr.d1
 unfold momX momE
 rw [show IntKind.i64.wrap (1 - r.dly) = 1 - r.dly by rw [IntKind.wrap_i64]; omega, show IntKind.i64.wrap (r.dly - 1) = r.dly - 1 by rw [IntKind.wrap_i64]; omega]
set_option maxHeartbeats 1000000 in
set_option maxRecDepth 100000 in
theorem moment_any (r : Reg) (m : Mom) (w : World) :
    Calls Tryz.prog 72 #[.agg #[.int .i64 r.tgt, .int .i64 r.band, .int .i64 r.dly, .int .i64 r.stp, .int .i64 r.lo, .int .i64 r.hi], .agg #[.int .i64 m.tap, .int .i64 m.wait]] w fun e' w' => e' = .returned (.int .i64 (momX r m)) ∧ Below w.heap.size w w' := by
 unfold momX
 obtain ⟨tgt, band, dly, stp, lo, hi⟩ := r
 obtain ⟨tap, wait⟩ := m
 simp only
 obtain ⟨d1, w1⟩ : ∃ x, IntKind.i64.wrap (1 - dly) = x := ⟨_, rfl⟩
 obtain ⟨d2, w2⟩ : ∃ x, IntKind.i64.wrap (dly - 1) = x := ⟨_, rfl⟩
 rw [w1, w2]
 have H1 := Lib.hid (fun (W : World) => t_within_any tap lo hi W)
 have H2 := Lib.hid (fun (W : World) => t_within_any wait d1 d2 W)
 generalize wi tap lo hi = b1 at *
 generalize wi wait d1 d2 = b2 at *
 go_enter Tryz.func72, Tryz.ntmps72
 go_wp2_with fail
 refine (H1.out _).mono ?_
 rintro e5 w5 ⟨rfl, rfl⟩
 cases b1
 ·go_wp2_with fail
  refine (t_unless_any _ _ _).mono ?_
  rintro e6 w6 ⟨rfl, rfl⟩
  go_wp2
  go_ret
  exact ⟨rfl, by (first|exact bwg|go_size)⟩
 ·go_wp2_with fail
  refine (H2.out _).mono ?_
  rintro e5 w5 ⟨rfl, rfl⟩
  go_wp2_with fail
  refine (t_unless_any _ _ _).mono ?_
  rintro e6 w6 ⟨rfl, rfl⟩
  go_wp2
  go_ret
  exact ⟨ret_int (by rw [Bool.true_and]), by (first|exact bwg|go_size)⟩
theorem cr1_any (n : Int) (w : World) : Calls Tryz.prog 107 #[.int .i64 n] w fun e' w' => e' = .returned (.bool (wi n (-40) 40)) ∧ w = w' := by
 have HS := Lib.hid (fun (W : World) => t_small_any n 40 W (by omega) (by omega))
 generalize wi n (-40) 40 = b at *
 go_enter Tryz.func107, Tryz.ntmps107
 go_wp2_with fail
 refine (HS.out _).mono ?_
 rintro e5 w5 ⟨rfl, rfl⟩
 go_wp2
 go_ret
 exact ⟨rfl, rfl⟩
set_option maxHeartbeats 2000000 in
set_option maxRecDepth 100000 in
theorem checkReg_any (r : Reg) (w : World) : Calls Tryz.prog 71 #[.agg #[.int .i64 r.tgt, .int .i64 r.band, .int .i64 r.dly, .int .i64 r.stp, .int .i64 r.lo, .int .i64 r.hi]] w fun e' w' => e' = .returned (.int .i64 (regE r)) ∧ Below w.heap.size w w' := by
 obtain ⟨V, hV⟩ : ∃ V, V = regE r := ⟨_, rfl⟩
 rw [← hV]
 unfold regE regB at hV
 obtain ⟨tgt, band, dly, stp, lo, hi⟩ := r
 simp only at hV ⊢
 have H1 := Lib.hid (fun (W : World) => t_small_any tgt 10000 W (by omega) (by omega))
 have H2 := Lib.hid (fun (W : World) => t_within_any band 0 10000 W)
 have H3 := Lib.hid (fun (W : World) => t_within_any dly 1 20 W)
 have H4 := Lib.hid (fun (W : World) => t_within_any stp 1 10000 W)
 have H5 := Lib.hid (fun (W : World) => cr1_any lo W)
 have H6 := Lib.hid (fun (W : World) => cr1_any hi W)
 have HUN := Lib.hid (fun (b : Bool) (e : Int) w' => t_unless_any b e w')
 generalize wi tgt (-10000) 10000 = b1 at *
 generalize wi band 0 10000 = b2 at *
 generalize wi dly 1 20 = b3 at *
 generalize wi stp 1 10000 = b4 at *
 generalize wi lo (-40) 40 = b5 at *
 generalize wi hi (-40) 40 = b6 at *
 have HV := Lib.hid hV
 clear hV
 go_enter Tryz.func71, Tryz.ntmps71
 go_wp2_with fail
 refine (H1.out _).mono ?_
 rintro e5 w5 ⟨rfl, rfl⟩
 cases b1
 ·skip
  go_wp2_with fail
  refine later_of_eq 9 (by kernel_rfl) (by kernel_rfl) ?_; simp only [List.take_succ_cons, List.take_zero, List.drop_succ_cons, List.drop_zero]; repeat go_big_quiet_step(with_reducible exact calls_later_same (HUN.out _ _ _))
  refine wpQuiet_nil ?_; intro w9 hb9
  have HB9 := Lib.hid ((show Below w.heap.size w (w.alloc (Obj.cells #[.int .i64 tgt, .int .i64 band, .int .i64 dly, .int .i64 stp, .int .i64 lo, .int .i64 hi] 25)) by (first|exact bwg|go_size)).trans (hb9.mono (by simp)))
  clear hb9
  go_wp2_with fail
  refine (t_unless_any _ _ _).mono ?_
  rintro e10 w10 ⟨rfl, rfl⟩
  go_wp2_with fail
  refine (t_first2 _ _ _ _ _ _ (by rfl) (by simp)).mono ?_
  rintro e8 w8 ⟨rfl, hw8⟩
  have HB8 := Lib.hid (HB9.out.trans ((show Below w9.heap.size w9 w8 by rw [← hw8]; (first|exact bwg|go_size)).mono HB9.out.size))
  clear hw8
  go_wp2
  go_ret
  exact ⟨ret_int (by rw [HV.out]; simp), HB8.out⟩
 ·go_wp2_with fail
  refine (H2.out _).mono ?_
  rintro e5 w5 ⟨rfl, rfl⟩
  cases b2
  ·skip
   go_wp2_with fail
   refine later_of_eq 9 (by kernel_rfl) (by kernel_rfl) ?_; simp only [List.take_succ_cons, List.take_zero, List.drop_succ_cons, List.drop_zero]; repeat go_big_quiet_step(with_reducible exact calls_later_same (HUN.out _ _ _))
   refine wpQuiet_nil ?_; intro w9 hb9
   have HB9 := Lib.hid ((show Below w.heap.size w (w.alloc (Obj.cells #[.int .i64 tgt, .int .i64 band, .int .i64 dly, .int .i64 stp, .int .i64 lo, .int .i64 hi] 25)) by (first|exact bwg|go_size)).trans (hb9.mono (by simp)))
   clear hb9
   go_wp2_with fail
   refine (t_unless_any _ _ _).mono ?_
   rintro e10 w10 ⟨rfl, rfl⟩
   go_wp2_with fail
   refine (t_first2 _ _ _ _ _ _ (by rfl) (by simp)).mono ?_
   rintro e8 w8 ⟨rfl, hw8⟩
   have HB8 := Lib.hid (HB9.out.trans ((show Below w9.heap.size w9 w8 by rw [← hw8]; (first|exact bwg|go_size)).mono HB9.out.size))
   clear hw8
   go_wp2
   go_ret
   exact ⟨ret_int (by rw [HV.out]; simp), HB8.out⟩
  ·go_wp2_with fail
   refine (H3.out _).mono ?_
   rintro e5 w5 ⟨rfl, rfl⟩
   cases b3
   ·skip
    go_wp2_with fail
    refine later_of_eq 9 (by kernel_rfl) (by kernel_rfl) ?_; simp only [List.take_succ_cons, List.take_zero, List.drop_succ_cons, List.drop_zero]; repeat go_big_quiet_step(with_reducible exact calls_later_same (HUN.out _ _ _))
    refine wpQuiet_nil ?_; intro w9 hb9
    have HB9 := Lib.hid ((show Below w.heap.size w (w.alloc (Obj.cells #[.int .i64 tgt, .int .i64 band, .int .i64 dly, .int .i64 stp, .int .i64 lo, .int .i64 hi] 25)) by (first|exact bwg|go_size)).trans (hb9.mono (by simp)))
    clear hb9
    go_wp2_with fail
    refine (t_unless_any _ _ _).mono ?_
    rintro e10 w10 ⟨rfl, rfl⟩
    go_wp2_with fail
    refine (t_first2 _ _ _ _ _ _ (by rfl) (by simp)).mono ?_
    rintro e8 w8 ⟨rfl, hw8⟩
    have HB8 := Lib.hid (HB9.out.trans ((show Below w9.heap.size w9 w8 by rw [← hw8]; (first|exact bwg|go_size)).mono HB9.out.size))
    clear hw8
    go_wp2
    go_ret
    exact ⟨ret_int (by rw [HV.out]; simp), HB8.out⟩
   ·go_wp2_with fail
    refine (H4.out _).mono ?_
    rintro e5 w5 ⟨rfl, rfl⟩
    cases b4
    ·skip
     go_wp2_with fail
     refine later_of_eq 9 (by kernel_rfl) (by kernel_rfl) ?_; simp only [List.take_succ_cons, List.take_zero, List.drop_succ_cons, List.drop_zero]; repeat go_big_quiet_step(with_reducible exact calls_later_same (HUN.out _ _ _))
     refine wpQuiet_nil ?_; intro w9 hb9
     have HB9 := Lib.hid ((show Below w.heap.size w (w.alloc (Obj.cells #[.int .i64 tgt, .int .i64 band, .int .i64 dly, .int .i64 stp, .int .i64 lo, .int .i64 hi] 25)) by (first|exact bwg|go_size)).trans (hb9.mono (by simp)))
     clear hb9
     go_wp2_with fail
     refine (t_unless_any _ _ _).mono ?_
     rintro e10 w10 ⟨rfl, rfl⟩
     go_wp2_with fail
     refine (t_first2 _ _ _ _ _ _ (by rfl) (by simp)).mono ?_
     rintro e8 w8 ⟨rfl, hw8⟩
     have HB8 := Lib.hid (HB9.out.trans ((show Below w9.heap.size w9 w8 by rw [← hw8]; (first|exact bwg|go_size)).mono HB9.out.size))
     clear hw8
     go_wp2
     go_ret
     exact ⟨ret_int (by rw [HV.out]; simp), HB8.out⟩
    ·go_wp2_with fail
     refine (H5.out _).mono ?_
     rintro e5 w5 ⟨rfl, rfl⟩
     cases b5
     ·skip
      go_wp2_with fail
      refine later_of_eq 9 (by kernel_rfl) (by kernel_rfl) ?_; simp only [List.take_succ_cons, List.take_zero, List.drop_succ_cons, List.drop_zero]; repeat go_big_quiet_step(with_reducible exact calls_later_same (HUN.out _ _ _))
      refine wpQuiet_nil ?_; intro w9 hb9
      have HB9 := Lib.hid ((show Below w.heap.size w (w.alloc (Obj.cells #[.int .i64 tgt, .int .i64 band, .int .i64 dly, .int .i64 stp, .int .i64 lo, .int .i64 hi] 25)) by (first|exact bwg|go_size)).trans (hb9.mono (by simp)))
      clear hb9
      go_wp2_with fail
      refine (t_unless_any _ _ _).mono ?_
      rintro e10 w10 ⟨rfl, rfl⟩
      go_wp2_with fail
      refine (t_first2 _ _ _ _ _ _ (by rfl) (by simp)).mono ?_
      rintro e8 w8 ⟨rfl, hw8⟩
      have HB8 := Lib.hid (HB9.out.trans ((show Below w9.heap.size w9 w8 by rw [← hw8]; (first|exact bwg|go_size)).mono HB9.out.size))
      clear hw8
      go_wp2
      go_ret
      exact ⟨ret_int (by rw [HV.out]; simp), HB8.out⟩
     ·go_wp2_with fail
      refine (H6.out _).mono ?_
      rintro e5 w5 ⟨rfl, rfl⟩
      cases b6
      ·skip
       go_wp2_with fail
       refine later_of_eq 9 (by kernel_rfl) (by kernel_rfl) ?_; simp only [List.take_succ_cons, List.take_zero, List.drop_succ_cons, List.drop_zero]; repeat go_big_quiet_step(with_reducible exact calls_later_same (HUN.out _ _ _))
       refine wpQuiet_nil ?_; intro w9 hb9
       have HB9 := Lib.hid ((show Below w.heap.size w (w.alloc (Obj.cells #[.int .i64 tgt, .int .i64 band, .int .i64 dly, .int .i64 stp, .int .i64 lo, .int .i64 hi] 25)) by (first|exact bwg|go_size)).trans (hb9.mono (by simp)))
       clear hb9
       go_wp2_with fail
       refine (t_unless_any _ _ _).mono ?_
       rintro e10 w10 ⟨rfl, rfl⟩
       go_wp2_with fail
       refine (t_first2 _ _ _ _ _ _ (by rfl) (by simp)).mono ?_
       rintro e8 w8 ⟨rfl, hw8⟩
       have HB8 := Lib.hid (HB9.out.trans ((show Below w9.heap.size w9 w8 by rw [← hw8]; (first|exact bwg|go_size)).mono HB9.out.size))
       clear hw8
       go_wp2
       go_ret
       exact ⟨ret_int (by rw [HV.out]; simp), HB8.out⟩
      ·skip
       go_wp2_with fail
       refine later_of_eq 9 (by kernel_rfl) (by kernel_rfl) ?_; simp only [List.take_succ_cons, List.take_zero, List.drop_succ_cons, List.drop_zero]; repeat go_big_quiet_step(with_reducible exact calls_later_same (HUN.out _ _ _))
       refine wpQuiet_nil ?_; intro w9 hb9
       have HB9 := Lib.hid ((show Below w.heap.size w (w.alloc (Obj.cells #[.int .i64 tgt, .int .i64 band, .int .i64 dly, .int .i64 stp, .int .i64 lo, .int .i64 hi] 25)) by (first|exact bwg|go_size)).trans (hb9.mono (by simp)))
       clear hb9
       go_wp2_with fail
       refine (t_unless_any _ _ _).mono ?_
       rintro e10 w10 ⟨rfl, rfl⟩
       go_wp2_with fail
       refine (t_first2 _ _ _ _ _ _ (by rfl) (by simp)).mono ?_
       rintro e8 w8 ⟨rfl, hw8⟩
       have HB8 := Lib.hid (HB9.out.trans ((show Below w9.heap.size w9 w8 by rw [← hw8]; (first|exact bwg|go_size)).mono HB9.out.size))
       clear hw8
       go_wp2
       go_ret
       exact ⟨ret_int (by rw [HV.out]; simp), HB8.out⟩
def rgdE (r : Reg) (m : Mom) (d : Int) : Int := firstErr [regE r, momE r m, swE d]
theorem rgdE_eq (r : Reg) (m : Mom) (d : Int) : firstErr [regE r, momX r m, swE d] = rgdE r m d := by
 unfold rgdE
 by_cases h : regE r = 0
 ·rw [momX_eq m (regE_zero.1 h)]
 ·show (if regE r = 0 then _ else regE r) = (if regE r = 0 then _ else regE r)
  rw [if_neg h, if_neg h]
set_option maxHeartbeats 1000000 in
set_option maxRecDepth 100000 in
theorem regulated_any (r : Reg) (m : Mom) (d : Int) (w : World) :
    Calls Tryz.prog 69 #[.agg #[.int .i64 r.tgt, .int .i64 r.band, .int .i64 r.dly, .int .i64 r.stp, .int .i64 r.lo, .int .i64 r.hi], .agg #[.int .i64 m.tap, .int .i64 m.wait], .int .i64 d] w fun e' w' => e' = .returned (.int .i64 (rgdE r m d)) ∧ Below w.heap.size w w' := by
 have HC := Lib.hid (fun (W : World) => checkReg_any r W)
 have HMM := Lib.hid (fun (W : World) => moment_any r m W)
 have HSW := Lib.hid (fun (W : World) => swing_any d W)
 have hE := rgdE_eq r m d
 generalize rgdE r m d = V at *
 generalize regE r = E1 at *
 generalize momX r m = E2 at *
 generalize swE d = E3 at *
 have HE := Lib.hid hE
 clear hE
 obtain ⟨tgt, band, dly, stp, lo, hi⟩ := r
 obtain ⟨tap, wait⟩ := m
 simp only at HC HMM ⊢
 go_enter Tryz.func69, Tryz.ntmps69
 go_wp2_with fail
 refine later_of_eq 6 (by kernel_rfl) (by kernel_rfl) ?_; simp only [List.take_succ_cons, List.take_zero, List.drop_succ_cons, List.drop_zero]; repeat go_big_quiet_step(first | with_reducible exact calls_later (HC.out _) | with_reducible exact calls_later (HMM.out _))
 refine wpQuiet_nil ?_; intro w9 hb9
 have HB9 := Lib.hid ((show Below w.heap.size w ((w.alloc (Obj.cells #[.int .i64 tgt, .int .i64 band, .int .i64 dly, .int .i64 stp, .int .i64 lo, .int .i64 hi] 25)).alloc (Obj.cells #[.int .i64 tap, .int .i64 wait] 27)) by (first|exact bwg|go_size)).trans (hb9.mono (by simp; omega)))
 clear hb9
 go_wp2_with fail
 refine (HSW.out _).mono ?_
 rintro e10 w10 ⟨rfl, hb10⟩
 have HB10 := bwt HB9 hb10
 clear hb10
 go_wp2_with fail
 refine (t_first3 _ _ _ _ _ _ _ (by rfl) (by simp)).mono ?_
 rintro e8 w8 ⟨rfl, hw8⟩
 have HB8 := Lib.hid (HB10.out.trans ((show Below w10.heap.size w10 w8 by rw [← hw8]; (first|exact bwg|go_size)).mono HB10.out.size))
 clear hw8
 go_wp2
 go_ret
 exact ⟨ret_int HE.out, HB8.out⟩
def prdE (p : Pai) (d : Int) : Int := firstErr [regE p.a, regE p.b, momE p.a p.ma, momE p.b p.mb, swE d]
theorem prdE_eq (p : Pai) (d : Int) : firstErr [regE p.a, regE p.b, momX p.a p.ma, momX p.b p.mb, swE d] = prdE p d := by
 unfold prdE
 by_cases h : regE p.a = 0
 ·rw [momX_eq p.ma (regE_zero.1 h)]
  by_cases h2 : regE p.b = 0
  ·rw [momX_eq p.mb (regE_zero.1 h2)]
  ·show (if regE p.a = 0 then (if regE p.b = 0 then _ else regE p.b) else regE p.a) = (if regE p.a = 0 then (if regE p.b = 0 then _ else regE p.b) else regE p.a)
   rw [if_neg h2, if_neg h2]
 ·show (if regE p.a = 0 then _ else regE p.a) = (if regE p.a = 0 then _ else regE p.a)
  rw [if_neg h, if_neg h]
def paiC (p : Pai) : List Value := [.int .i64 p.a.tgt, .int .i64 p.a.band, .int .i64 p.a.dly, .int .i64 p.a.stp, .int .i64 p.a.lo, .int .i64 p.a.hi, .int .i64 p.b.tgt, .int .i64 p.b.band, .int .i64 p.b.dly, .int .i64 p.b.stp, .int .i64 p.b.lo, .int .i64 p.b.hi, .int .i64 p.ma.tap, .int .i64 p.ma.wait, .int .i64 p.mb.tap, .int .i64 p.mb.wait]
set_option maxHeartbeats 1000000 in
set_option maxRecDepth 100000 in
theorem pairErr_any (p : Pai) (d : Int) (w : World) :
    Calls Tryz.prog 38 #[.agg #[.int .i64 p.a.tgt, .int .i64 p.a.band, .int .i64 p.a.dly, .int .i64 p.a.stp, .int .i64 p.a.lo, .int .i64 p.a.hi, .int .i64 p.b.tgt, .int .i64 p.b.band, .int .i64 p.b.dly, .int .i64 p.b.stp, .int .i64 p.b.lo, .int .i64 p.b.hi, .int .i64 p.ma.tap, .int .i64 p.ma.wait, .int .i64 p.mb.tap, .int .i64 p.mb.wait], .int .i64 d] w fun e' w' => e' = .returned (.int .i64 (prdE p d)) ∧ Below w.heap.size w w' := by
 have HC := Lib.hid (fun (W : World) => checkReg_any p.a W)
 have HC2 := Lib.hid (fun (W : World) => checkReg_any p.b W)
 have HMM := Lib.hid (fun (W : World) => moment_any p.a p.ma W)
 have HM2 := Lib.hid (fun (W : World) => moment_any p.b p.mb W)
 have HSW := Lib.hid (fun (W : World) => swing_any d W)
 have hE := prdE_eq p d
 generalize prdE p d = V at *
 generalize regE p.a = E1 at *
 generalize regE p.b = E2 at *
 generalize momX p.a p.ma = E3 at *
 generalize momX p.b p.mb = E4 at *
 generalize swE d = E5 at *
 have HE := Lib.hid hE
 clear hE
 obtain ⟨⟨tgt, band, dly, stp, lo, hi⟩, ⟨tgt2, band2, dly2, stp2, lo2, hi2⟩, ⟨tap, wait⟩, ⟨tap2, wait2⟩⟩ := p
 simp only at HC HC2 HMM HM2 ⊢
 go_enter Tryz.func38, Tryz.ntmps38
 go_wp2_with fail
 refine later_of_eq 17 (by kernel_rfl) (by kernel_rfl) ?_; simp only [List.take_succ_cons, List.take_zero, List.drop_succ_cons, List.drop_zero]; repeat go_big_quiet_step(first | with_reducible exact calls_later (HC.out _) | with_reducible exact calls_later (HC2.out _) | with_reducible exact calls_later (HMM.out _) | with_reducible exact calls_later (HM2.out _))
 refine wpQuiet_nil ?_; intro w9 hb9
 have HB9 := Lib.hid ((show Below w.heap.size w (w.alloc (Obj.cells #[.int .i64 tgt, .int .i64 band, .int .i64 dly, .int .i64 stp, .int .i64 lo, .int .i64 hi, .int .i64 tgt2, .int .i64 band2, .int .i64 dly2, .int .i64 stp2, .int .i64 lo2, .int .i64 hi2, .int .i64 tap, .int .i64 wait, .int .i64 tap2, .int .i64 wait2] 29)) by (first|exact bwg|go_size)).trans (hb9.mono (by simp)))
 clear hb9
 go_wp2_with fail
 refine (HSW.out _).mono ?_
 rintro e10 w10 ⟨rfl, hb10⟩
 have HB10 := bwt HB9 hb10
 clear hb10
 go_wp2_with fail
 refine (t_first5 _ _ _ _ _ _ _ _ _ (by rfl) (by simp)).mono ?_
 rintro e8 w8 ⟨rfl, hw8⟩
 have HB8 := Lib.hid (HB10.out.trans ((show Below w10.heap.size w10 w8 by rw [← hw8]; (first|exact bwg|go_size)).mono HB10.out.size))
 clear hw8
 go_wp2
 go_ret
 exact ⟨ret_int HE.out, HB8.out⟩
end Go.Proofs.YtdjinmieogpgcaaGreat
