import Derived.Test.YtidboecjllaofaaTRErr
import Derived.Test.YtidboecjllaofaaTSetP
/- The law TapHunts: resting and hunting. -/
namespace Go.Proofs.Ytidboecjllaofaa
open Go.RowKit Go.Shelf
set_option linter.unusedVariables false
set_option linter.unusedSimpArgs false

/-- Whether it hunts at one of the first k taps. -/
def huK (r : Reg) (d : Int) : Nat → Bool
  | 0 => false
  | k + 1 => huK r d k || (decide (vol r d (r.lo + k) < r.tgt - r.band) && decide (r.tgt + r.band < vol r d (r.lo + k) + r.stp))
theorem huK_iff (r : Reg) (d : Int) : ∀ k, huK r d k = true ↔ ∃ t, r.lo ≤ t ∧ t < r.lo + k ∧ lowT r d t ∧ highT r d (t + 1)
  | 0 => by
    unfold huK
    simp only [Bool.false_eq_true, false_iff]
    rintro ⟨t, h1, h2, _⟩; omega
  | k + 1 => by
    unfold huK
    rw [Bool.or_eq_true, huK_iff r d k, Bool.and_eq_true, decide_eq_true_eq, decide_eq_true_eq]
    constructor
    · rintro (⟨t, h1, h2, h3⟩ | ⟨h1, h2⟩)
      · exact ⟨t, h1, by omega, h3⟩
      · exact ⟨r.lo + k, by omega, by omega, h1, by unfold highT; rw [vol_succ]; exact h2⟩
    · rintro ⟨t, h1, h2, h3, h4⟩
      by_cases ht : t < r.lo + k
      · exact .inl ⟨t, h1, ht, h3, h4⟩
      · obtain rfl : t = r.lo + k := by omega
        unfold highT at h4
        rw [vol_succ] at h4
        exact .inr ⟨h3, h4⟩
theorem huK_all {r : Reg} (hr : RegV r) (d : Int) {k : Nat} (hk : (k : Int) = r.hi - r.lo) : huK r d k = true ↔ hunts r d := by
  rw [huK_iff]
  unfold hunts
  have e : r.lo + k = r.hi := by omega
  rw [e]
/-- What a settling of a regulator that hunts is, and of one that does not. -/
theorem hnt_set {r : Reg} (hr : RegV r) {m : Mom} (hm : MomV r m) {d t x e : Int} (hd : rgdE r m d = 0) (h : SetO r m d t x e) :
    (hunts r d ∧ t = 0 ∧ x = 0 ∧ e = 21 ∧ 2 * r.band < r.stp) ∨ (¬ hunts r d ∧ e = 0 ∧ 0 ≤ t ∧ (r.lo ≤ x ∧ x ≤ r.hi) ∧
      ((r.tgt - r.band ≤ vol r d x ∧ vol r d x ≤ r.tgt + r.band) ∨ (vol r d x < r.tgt ∧ x = r.hi) ∨ (r.tgt < vol r d x ∧ x = r.lo))) := by
  rcases h with ⟨h, _⟩ | ⟨_, t', x', b, ⟨T, fr, hp, rfl, rfl, rfl⟩, h⟩
  · exact absurd hd h
  · have hi := rests_iff hr hm hp
    rcases h with ⟨hb, rfl, rfl, rfl⟩ | ⟨hb, rfl, rfl, rfl⟩
    · rw [decide_eq_true_eq] at hb
      obtain ⟨h1, h2⟩ := hunt_law hr hm hp hb
      exact .inr ⟨hi.1 hb, rfl, by omega, h1, h2⟩
    · rw [decide_eq_false_iff_not] at hb
      have hh : hunts r d := Classical.byContradiction fun hn => hb (hi.2 hn)
      exact .inl ⟨hh, rfl, rfl, rfl, hunts_step hh⟩
set_option maxHeartbeats 2000000 in
set_option maxRecDepth 100000 in
theorem hnt_any (r : Reg) (m : Mom) (d : Int) (w : World) :
    Calls Try.prog 3 #[.agg #[.int .i64 r.tgt, .int .i64 r.band, .int .i64 r.dly, .int .i64 r.stp, .int .i64 r.lo, .int .i64 r.hi], .agg #[.int .i64 m.tap, .int .i64 m.wait, .int .i64 d]] w fun e' w' => e' = .returned (.bool true) ∧ Below w.heap.size w w' := by
  have HWI := Lib.hid (fun (n lo hi : Int) w' => bwithin_any n lo hi w')
  have HRE := Lib.hid (fun W => rRegulatorErr_any r W)
  have HME := Lib.hid (fun (h : regE r = 0) W => rMomentErr_any r m W (regE_zero.1 h))
  have HSE := Lib.hid (fun W => rSwingErr_any d W)
  have HSO := Lib.hid (fun W => settlingOf_any r m d W)
  have HSS := Lib.hid (fun (h1 : regE r = 0) (h2 : momE r m = 0) (h3 : swE d = 0) (t x e : Int) (h : SetO r m d t x e) => hnt_set (regE_zero.1 h1) (momE_zero.1 h2) (by unfold rgdE; rw [h1, h2, h3]; rfl) h)
  have HRV := Lib.hid (fun (h : regE r = 0) => regE_zero.1 h)
  have HSV := Lib.hid (fun (h : swE d = 0) => swE_zero.1 h)
  have HKA := Lib.hid (fun (h : regE r = 0) (k : Nat) (hk : (k : Int) = r.hi - r.lo) => huK_all (regE_zero.1 h) d hk)
  have HK0 : huK r d 0 = false := rfl
  have HK1 := Lib.hid (fun k => show huK r d (k + 1) = (huK r d k || (decide (vol r d (r.lo + k) < r.tgt - r.band) && decide (r.tgt + r.band < vol r d (r.lo + k) + r.stp))) from rfl)
  have HVO := Lib.hid (fun t => show vol r d t = d + r.stp * t from rfl)
  have HPR := Lib.hid (fun (h : regE r = 0) (t : Int) (h1 : r.lo ≤ t) (h2 : t ≤ r.hi) => show -400000 ≤ r.stp * t ∧ r.stp * t ≤ 400000 from by
    have hr := regE_zero.1 h
    have h3 := hr.l0
    have h4 := hr.h1
    have h5 : (r.stp * t).natAbs ≤ 10000 * 40 := by rw [Int.natAbs_mul]; exact Nat.mul_le_mul (by have := hr.s0; have := hr.s1; omega) (by omega)
    omega)
  generalize SetO r m d = SO at *
  generalize hunts r d = HU at *
  generalize huK r d = HK at *
  generalize vol r d = VO at *
  have HB1 := Lib.hid (fun (h : regE r = 0) => show ((-10000 ≤ r.tgt ∧ r.tgt ≤ 10000) ∧ (0 ≤ r.band ∧ r.band ≤ 10000) ∧ (1 ≤ r.stp ∧ r.stp ≤ 10000) ∧ (-40 ≤ r.lo ∧ r.lo ≤ r.hi) ∧ r.hi ≤ 40) from by
    have hr := regE_zero.1 h
    exact ⟨⟨hr.t0, hr.t1⟩, ⟨hr.b0, hr.b1⟩, ⟨hr.s0, hr.s1⟩, ⟨hr.l0, hr.l1⟩, hr.h1⟩)
  generalize regE r = E1 at *
  generalize momE r m = E2 at *
  generalize swE d = E3 at *
  obtain ⟨tgt, band, dly, stp, lo, hi⟩ := r
  obtain ⟨tap, wait⟩ := m
  simp only at *
  clear HRV
  go_enter Try.func3, Try.ntmps3
  go_wp2_with fail
  obtain ⟨w1, hW1⟩ : ∃ w1, w1 = (w.alloc (Obj.cells #[.int .i64 tgt, .int .i64 band, .int .i64 dly, .int .i64 stp, .int .i64 lo, .int .i64 hi] 25)).alloc (Obj.cells #[.int .i64 tap, .int .i64 wait, .int .i64 d] 29) := ⟨_, rfl⟩
  rw [← hW1]
  have hb1 : Below w.heap.size w w1 := by rw [hW1]; (repeat' (first | (with_reducible exact Below.refl _ _) | (with_reducible assumption) | (with_reducible refine Below.drewN ?_ _) | (with_reducible refine Below.alloc ?_ ?_ _) | (with_reducible refine Below.drew ?_) | (with_reducible refine Below.setCell ?_ ?_ _) | (with_reducible refine Below.step (by assumption) ?_ ?_) | (with_reducible exact And.left (by assumption)) | go_size))
  have k2 : BlkR w1 w.heap.size (.cells #[.int .i64 tgt, .int .i64 band, .int .i64 dly, .int .i64 stp, .int .i64 lo, .int .i64 hi] 25) := by
    show w1.heap[w.heap.size]? = _
    rw [hW1, Below.heap_alloc _ _ _ (by simp)]
    exact heap_alloc_new _ _
  have k3 : BlkR w1 (w.heap.size + 1) (.cells #[.int .i64 tap, .int .i64 wait, .int .i64 d] 29) := by
    show w1.heap[w.heap.size + 1]? = _
    rw [hW1]
    have := heap_alloc_new (w.alloc (Obj.cells #[.int .i64 tgt, .int .i64 band, .int .i64 dly, .int .i64 stp, .int .i64 lo, .int .i64 hi] 25)) (Obj.cells #[.int .i64 tap, .int .i64 wait, .int .i64 d] 29)
    simpa using this
  obtain ⟨X2, hX2⟩ : ∃ X, X = w.heap.size := ⟨_, rfl⟩
  obtain ⟨X3, hX3⟩ : ∃ X, X = w.heap.size + 1 := ⟨_, rfl⟩
  rw [← hX3] at k3
  rw [← hX2] at k2
  simp only [← hX3]
  simp only [← hX2]
  clear hW1 hX2 hX3
  refine (awake_any w1).mono ?_
  rintro e2 w2 ⟨rfl, hb2⟩
  have K2 := Lib.hid (k2.below hb2)
  have K3 := Lib.hid (k3.below hb2)
  have HB := Lib.hid (hb1.trans (hb2.mono hb1.size))
  clear hb1 hb2 k2 k3
  have c0 := blk_cell K2.out (i := 0) rfl
  have c1 := blk_cell K2.out (i := 1) rfl
  have c2 := blk_cell K2.out (i := 2) rfl
  have c3 := blk_cell K2.out (i := 3) rfl
  have c4 := blk_cell K2.out (i := 4) rfl
  have c5 := blk_cell K2.out (i := 5) rfl
  have l2 := K2.out.lt
  have d0 := blk_cell K3.out (i := 0) rfl
  have d1 := blk_cell K3.out (i := 1) rfl
  have d2 := blk_cell K3.out (i := 2) rfl
  have l3 := K3.out.lt
  go_wp2_with fail
  refine (HRE.out _).mono ?_
  rintro e3 w3 ⟨rfl, hb3⟩
  clear c0 c1 c2 c3 c4 c5 l2 d0 d1 d2 l3
  have K2 := Lib.hid (K2.out.below hb3)
  have K3 := Lib.hid (K3.out.below hb3)
  have HB := Lib.hid (HB.out.trans (hb3.mono HB.out.size))
  clear hb3
  have c0 := blk_cell K2.out (i := 0) rfl
  have c1 := blk_cell K2.out (i := 1) rfl
  have c2 := blk_cell K2.out (i := 2) rfl
  have c3 := blk_cell K2.out (i := 3) rfl
  have c4 := blk_cell K2.out (i := 4) rfl
  have c5 := blk_cell K2.out (i := 5) rfl
  have l2 := K2.out.lt
  have d0 := blk_cell K3.out (i := 0) rfl
  have d1 := blk_cell K3.out (i := 1) rfl
  have d2 := blk_cell K3.out (i := 2) rfl
  have l3 := K3.out.lt
  by_cases h1 : E1 = 0
  · subst h1
    go_wp2_with fail
    refine (HME.out (by trivial) _).mono ?_
    rintro e4 w4 ⟨rfl, hb4⟩
    clear c0 c1 c2 c3 c4 c5 l2 d0 d1 d2 l3
    have K2 := Lib.hid (K2.out.below hb4)
    have K3 := Lib.hid (K3.out.below hb4)
    have HB := Lib.hid (HB.out.trans (hb4.mono HB.out.size))
    clear hb4
    have c0 := blk_cell K2.out (i := 0) rfl
    have c1 := blk_cell K2.out (i := 1) rfl
    have c2 := blk_cell K2.out (i := 2) rfl
    have c3 := blk_cell K2.out (i := 3) rfl
    have c4 := blk_cell K2.out (i := 4) rfl
    have c5 := blk_cell K2.out (i := 5) rfl
    have l2 := K2.out.lt
    have d0 := blk_cell K3.out (i := 0) rfl
    have d1 := blk_cell K3.out (i := 1) rfl
    have d2 := blk_cell K3.out (i := 2) rfl
    have l3 := K3.out.lt
    by_cases h2 : E2 = 0
    · subst h2
      go_wp2_with fail
      refine (HSE.out _).mono ?_
      rintro e5 w5 ⟨rfl, hb5⟩
      clear c0 c1 c2 c3 c4 c5 l2 d0 d1 d2 l3
      have K2 := Lib.hid (K2.out.below hb5)
      have K3 := Lib.hid (K3.out.below hb5)
      have HB := Lib.hid (HB.out.trans (hb5.mono HB.out.size))
      clear hb5
      have c0 := blk_cell K2.out (i := 0) rfl
      have c1 := blk_cell K2.out (i := 1) rfl
      have c2 := blk_cell K2.out (i := 2) rfl
      have c3 := blk_cell K2.out (i := 3) rfl
      have c4 := blk_cell K2.out (i := 4) rfl
      have c5 := blk_cell K2.out (i := 5) rfl
      have l2 := K2.out.lt
      have d0 := blk_cell K3.out (i := 0) rfl
      have d1 := blk_cell K3.out (i := 1) rfl
      have d2 := blk_cell K3.out (i := 2) rfl
      have l3 := K3.out.lt
      by_cases h3 : E3 = 0
      · subst h3
        have HSS2 := Lib.hid (HSS.out (by trivial) (by trivial) (by trivial))
        have HKA := Lib.hid (HKA.out (by trivial))
        have HPR := Lib.hid (HPR.out (by trivial))
        obtain ⟨⟨t0, t1⟩, ⟨b0, b1⟩, ⟨s0, s1⟩, ⟨q0, q1⟩, q2⟩ := HB1.out (by trivial)
        obtain ⟨v0, v1⟩ := HSV.out (by trivial)
        clear HB1 HSV HRE HME HSE HSS
        go_wp2_with fail
        clear c0 c1 c2 c3 c4 c5 l2 d0 d1 d2 l3
        go_loopw [5, 6] (fun a b wr => ∃ k : Nat, a = .bool (HK k) ∧ b = .int .i64 (lo + (k : Int)) ∧ lo + (k : Int) ≤ hi ∧ Hid (BlkR wr X2 (.cells #[.int .i64 tgt, .int .i64 band, .int .i64 dly, .int .i64 stp, .int .i64 lo, .int .i64 hi] 25)) ∧ Hid (BlkR wr X3 (.cells #[.int .i64 tap, .int .i64 wait, .int .i64 d] 29)) ∧ Hid (Below w.heap.size w wr)) (fun _ b _ => (hi - intOf b).toNat)
        case atStart => exact ⟨0, by rw [HK0], by simp, by simp; omega, K2, K3, HB⟩
        case round =>
          clear K2 K3 HB
          obtain ⟨k, rfl, rfl, hk, K2, K3, HB⟩ := hrel
          have c0 := blk_cell K2.out (i := 0) rfl
          have c1 := blk_cell K2.out (i := 1) rfl
          have c2 := blk_cell K2.out (i := 2) rfl
          have c3 := blk_cell K2.out (i := 3) rfl
          have c4 := blk_cell K2.out (i := 4) rfl
          have c5 := blk_cell K2.out (i := 5) rfl
          have l2 := K2.out.lt
          have d0 := blk_cell K3.out (i := 0) rfl
          have d1 := blk_cell K3.out (i := 1) rfl
          have d2 := blk_cell K3.out (i := 2) rfl
          have l3 := K3.out.lt
          by_cases hlt : lo + (k : Int) < hi
          · have hp := HPR.out (lo + (k : Int)) (by omega) (by omega)
            have hv := HVO.out (lo + (k : Int))
            have hk1 := HK1.out k
            have HHK := Lib.hid hk1
            generalize VO (lo + (k : Int)) = V at *
            have g1 : IntKind.i64.wrap (stp * (lo + (k : Int))) = stp * (lo + (k : Int)) := by rw [IntKind.wrap_i64]; omega
            have g2 : IntKind.i64.wrap (d + stp * (lo + (k : Int))) = V := by rw [IntKind.wrap_i64]; omega
            have g3 : IntKind.i64.wrap (tgt - band) = tgt - band := by rw [IntKind.wrap_i64]; omega
            have g4 : IntKind.i64.wrap (tgt + band) = tgt + band := by rw [IntKind.wrap_i64]; omega
            have g5 : IntKind.i64.wrap (V + stp) = V + stp := by rw [IntKind.wrap_i64]; omega
            have g6 : IntKind.i64.wrap (lo + (k : Int) + 1) = lo + (k : Int) + 1 := by rw [IntKind.wrap_i64]; omega
            clear hk1
            generalize hk0 : HK k = B at *
            cases B
            · by_cases hx : V < tgt - band
              · by_cases hy : tgt + band < V + stp
                · go_wp2_with fail
                  go_roundw
                  case rel => exact ⟨k + 1, by rw [HHK.out, ← hv]; simp [hx, hy], by simp; omega, by simp; omega, K2, K3, HB⟩
                  case measure => simp [intOf]; omega
                · go_wp2_with fail
                  go_roundw
                  case rel => exact ⟨k + 1, by rw [HHK.out, ← hv]; simp [hx, hy], by simp; omega, by simp; omega, K2, K3, HB⟩
                  case measure => simp [intOf]; omega
              · go_wp2_with fail
                go_roundw
                case rel => exact ⟨k + 1, by rw [HHK.out]; simp [hx], by simp; omega, by simp; omega, K2, K3, HB⟩
                case measure => simp [intOf]; omega
            · go_wp2_with fail
              go_roundw
              case rel => exact ⟨k + 1, by rw [HHK.out]; simp, by simp; omega, by simp; omega, K2, K3, HB⟩
              case measure => simp [intOf]; omega
          · have hkA := HKA.out k (by omega)
            have HKX := Lib.hid hkA
            have HSX := Lib.hid (HSO.out wr)
            clear hkA
            go_wp2_with fail
            refine HSX.out.mono ?_
            rintro e7 w7 ⟨hb7, t, x, e, rfl, hso⟩
            have HSZ := Lib.hid (HSS2.out t x e hso)
            clear c0 c1 c2 c3 c4 c5 l2 d0 d1 d2 l3
            have K2 := Lib.hid (K2.out.below hb7)
            have K3 := Lib.hid (K3.out.below hb7)
            have HB := Lib.hid (HB.out.trans (hb7.mono HB.out.size))
            clear hb7
            have c0 := blk_cell K2.out (i := 0) rfl
            have c1 := blk_cell K2.out (i := 1) rfl
            have c2 := blk_cell K2.out (i := 2) rfl
            have c3 := blk_cell K2.out (i := 3) rfl
            have c4 := blk_cell K2.out (i := 4) rfl
            have c5 := blk_cell K2.out (i := 5) rfl
            have l2 := K2.out.lt
            have d0 := blk_cell K3.out (i := 0) rfl
            have d1 := blk_cell K3.out (i := 1) rfl
            have d2 := blk_cell K3.out (i := 2) rfl
            have l3 := K3.out.lt
            clear hso HSO HSX
            have HK8 := Lib.hid (show BlkR (w7.alloc (Obj.cells #[.int .i64 t, .int .i64 x] 35)) w7.heap.size (.cells #[.int .i64 t, .int .i64 x] 35) from heap_alloc_new _ _)
            generalize HK k = B at *
            cases B
            · obtain ⟨hnh, rfl, ht, ⟨hx0, hx1⟩, hpl⟩ : ¬ HU ∧ e = 0 ∧ 0 ≤ t ∧ (lo ≤ x ∧ x ≤ hi) ∧ ((tgt - band ≤ VO x ∧ VO x ≤ tgt + band) ∨ (VO x < tgt ∧ x = hi) ∨ (tgt < VO x ∧ x = lo)) := by
                rcases HSZ.out with ⟨h, _⟩ | h
                · exact absurd (HKX.out.2 h) (by decide)
                · exact h
              clear HSZ
              have hp := HPR.out x hx0 hx1
              have hv := HVO.out x
              generalize VO x = V at *
              have g1 : IntKind.i64.wrap (stp * x) = stp * x := by rw [IntKind.wrap_i64]; omega
              have g2 : IntKind.i64.wrap (d + stp * x) = V := by rw [IntKind.wrap_i64]; omega
              have g3 : IntKind.i64.wrap (tgt - band) = tgt - band := by rw [IntKind.wrap_i64]; omega
              have g4 : IntKind.i64.wrap (tgt + band) = tgt + band := by rw [IntKind.wrap_i64]; omega
              have ht0 : ¬ t < 0 := by omega
              have hwx : wi x lo hi = true := wi_iff.2 ⟨hx0, hx1⟩
              have HVV := Lib.hid hv
              clear hv hp
              by_cases hw : tgt - band ≤ V ∧ V ≤ tgt + band
              · have hwv : wi V (tgt - band) (tgt + band) = true := wi_iff.2 hw
                clear hw
                go_wp2_with (go_at_call 9; refine (HWI.out _ _ _ _).mono ?_; rintro e5 w5 ⟨rfl, rfl⟩)
                go_ret
                exact ⟨ret_bool (by simp), by have := HB.out; exact this.alloc this.size _⟩
              · have hwv : wi V (tgt - band) (tgt + band) = false := by rw [Bool.eq_false_iff]; intro h; exact hw (wi_iff.1 h)
                by_cases hu : V < tgt
                · have hxe : x = hi := by omega
                  subst hxe
                  clear hw hpl
                  go_wp2_with (go_at_call 9; refine (HWI.out _ _ _ _).mono ?_; rintro e5 w5 ⟨rfl, rfl⟩)
                  go_ret
                  exact ⟨ret_bool (by simp), by have := HB.out; exact this.alloc this.size _⟩
                · have hxe : x = lo := by omega
                  have hg : tgt < V := by omega
                  subst hxe
                  clear hw hpl
                  go_wp2_with (go_at_call 9; refine (HWI.out _ _ _ _).mono ?_; rintro e5 w5 ⟨rfl, rfl⟩)
                  go_ret
                  exact ⟨ret_bool (by simp), by have := HB.out; exact this.alloc this.size _⟩
            · obtain ⟨hh, rfl, rfl, rfl, hst⟩ : HU ∧ t = 0 ∧ x = 0 ∧ e = 21 ∧ 2 * band < stp := by
                rcases HSZ.out with h | ⟨h, _⟩
                · exact h
                · exact absurd (HKX.out.1 rfl) h
              clear HSZ
              have g1 : IntKind.i64.wrap (2 * band) = 2 * band := by rw [IntKind.wrap_i64]; omega
              go_wp2
              go_ret
              exact ⟨ret_bool (by simp), by have := HB.out; exact this.alloc this.size _⟩
      · have e1 := bne_iff_ne.2 h3
        clear h3
        go_wp2
        go_ret
        exact ⟨rfl, HB.out⟩
    · have e1 := bne_iff_ne.2 h2
      clear h2
      go_wp2
      go_ret
      exact ⟨rfl, HB.out⟩
  · have e1 := bne_iff_ne.2 h1
    clear h1
    go_wp2
    go_ret
    exact ⟨rfl, HB.out⟩
end Go.Proofs.Ytidboecjllaofaa
