import Derived.Test.YtidboecjllaofaaGreatMB
import Derived.Test.YtidboecjllaofaaGreatMC
import Derived.Test.YtidboecjllaofaaGreatME
/- The law TapMachines: which machines are valid, and the contacts that may change, are as specified. -/
namespace Go.Proofs.YtidboecjllaofaaGreat
open Go.RowKit Go.Shelf
set_option linter.unusedVariables false
set_option linter.unusedSimpArgs false

def BlkM (w : World) (g : Nat) (o : Obj) : Prop := w.heap[g]? = some o
theorem BlkM.below {w w' : World} {g : Nat} {o : Obj} (h : BlkM w g o) (hb : Below w.heap.size w w') : BlkM w' g o := (hb.block _ (Array.getElem?_eq_some_iff.1 h).1).trans h
theorem BlkM.lt {w : World} {g : Nat} {o : Obj} (h : BlkM w g o) : g < w.heap.size := (Array.getElem?_eq_some_iff.1 h).1
set_option maxHeartbeats 2000000 in
set_option maxRecDepth 100000 in
theorem mch_of (haw : ∀ W : World, Calls Tryz.prog 14 #[] W fun e' w' => e' = .returned (.bool true) ∧ Below W.heap.size W w') (m : Mac) (s : Int) (ab ag : Option Addr) (nb cb ng cg : Nat) (w : World) (hb : BrR w ab nb m.br) (hg : GrR w ag ng m.gs) :
    Calls Tryz.prog 6 #[.agg #[.slice ab nb cb, .int .i64 m.st, .slice ag ng cg], .int .i64 s] w fun e' w' => e' = .returned (.bool true) ∧ Below w.heap.size w w' := by
  have HAW := Lib.hid haw
  have HFW := Lib.hid (fun (W : World) => few_any m.st ab ag nb cb ng cg W hb.small hg.small)
  have HCP0 := Lib.hid (fun (h1 : nb ≤ 8) (h2 : ng ≤ 32) (W : World) (hbw : Below w.heap.size w W) => copyM_any m ab ag nb cb ng cg W (hb.below hbw) (hg.below hbw) (by omega) (by omega))
  have HCM := Lib.hid (fun (a1 a2 : Option Addr) (c1 c2 : Nat) (W : World) (h1 : BrR W a1 nb m.br) (h2 : GrR W a2 ng m.gs) => checkMachine_any m a1 a2 nb c1 ng c2 W h1 h2)
  have HMI := Lib.hid (fun (h8 : nb ≤ 8) (a1 a2 : Option Addr) (c1 c2 : Nat) (W : World) (h1 : BrR W a1 nb m.br) (h2 : GrR W a2 ng m.gs) => movesIn_any m s a1 a2 nb c1 ng c2 W h1 h2 h8)
  have HRC := Lib.hid (fun (W : World) (hbw : Below w.heap.size w W) => rCheckMachine_any m ab ag nb cb ng cg W (hb.below hbw) (hg.below hbw))
  have HRS := Lib.hid (fun (h8 : nb ≤ 8) (W : World) => rStaE_any m.st nb cb ng cg ab ag s W h8)
  have HME : movE m s = firstErr [(macE m).2, staE nb s] := by unfold movE; rw [hb.len]
  have HRM := Lib.hid (fun (h : movE m s = 0) => show ∃ n : Nat, s = (n : Int) ∧ ∀ (W : World) (hbw : Below w.heap.size w W), Calls Tryz.prog 50 #[.agg #[.slice ab nb cb, .int .i64 m.st, .slice ag ng cg], .int .i64 (n : Int)] W (fun e' w' => ∃ a' n' c', e' = .returned (.slice a' n' c') ∧ Below W.heap.size W w' ∧ IntsR w' a' n' (nats (movL m n))) from by
    rw [HME, firstErr_cons, firstErr_cons] at h
    have hm := (macE_zero h.1).2
    have h2 := staE_zero.1 h.2.1
    have hp : (2 : Int) ^ nb ≤ 64 := by
      have := hm.n1
      rw [hb.len] at this
      have : nb = 0 ∨ nb = 1 ∨ nb = 2 ∨ nb = 3 ∨ nb = 4 ∨ nb = 5 ∨ nb = 6 := by omega
      rcases this with rfl | rfl | rfl | rfl | rfl | rfl | rfl <;> decide
    obtain ⟨n, rfl⟩ : ∃ n : Nat, s = n := ⟨s.toNat, by omega⟩
    exact ⟨n, rfl, fun W hbw => rMoves_any m n ab ag nb cb ng cg W hm hb.len (hg.below hbw) (by omega)⟩)
  obtain ⟨st, hst⟩ : ∃ x, x = m.st := ⟨_, rfl⟩
  rw [← hst] at HFW HCP0 HCM HMI HRC HRS HRM ⊢
  obtain ⟨RL, hRL⟩ : ∃ R, R = nats (if movE m s = 0 then movL m s.toNat else []) := ⟨_, rfl⟩
  rw [← hRL] at HMI
  have HRL := Lib.hid hRL
  obtain ⟨ME, hME⟩ : ∃ E, E = movE m s := ⟨_, rfl⟩
  rw [← hME] at HMI HRM HRL HME
  have HMM := Lib.hid HME
  generalize hE : macE m = E at *
  obtain ⟨E1, E2⟩ := E
  simp only at HCM HRC HMM
  generalize staE nb s = E3 at *
  clear hb hg hst hRL hME HME hE haw
  go_enter Tryz.func6, Tryz.ntmps6
  go_wp2_with fail
  obtain ⟨w1, hW1⟩ : ∃ w1, w1 = w.alloc (Obj.cells #[.slice ab nb cb, .int .i64 st, .slice ag ng cg] 45) := ⟨_, rfl⟩
  rw [← hW1]
  have hb1 : Below w.heap.size w w1 := by rw [hW1]; (repeat' (first | (with_reducible exact Below.refl _ _) | (with_reducible assumption) | (with_reducible refine Below.drewN ?_ _) | (with_reducible refine Below.alloc ?_ ?_ _) | (with_reducible refine Below.drew ?_) | (with_reducible refine Below.setCell ?_ ?_ _) | (with_reducible refine Below.step (by assumption) ?_ ?_) | (with_reducible exact And.left (by assumption)) | go_size))
  have k2 : BlkM w1 w.heap.size (.cells #[.slice ab nb cb, .int .i64 st, .slice ag ng cg] 45) := by show w1.heap[w.heap.size]? = _; rw [hW1]; exact heap_alloc_new _ _
  obtain ⟨X2, hX2⟩ : ∃ X, X = w.heap.size := ⟨_, rfl⟩
  rw [← hX2] at k2
  simp only [← hX2]
  refine (HAW.out w1).mono ?_
  rintro e2 w2 ⟨rfl, hb2⟩
  have K2 := Lib.hid (k2.below hb2)
  have HB := Lib.hid (hb1.trans (hb2.mono hb1.size))
  clear hW1 hX2 hb1 hb2 k2 HAW
  have c0 := blk_cell K2.out (i := 0) rfl
  have c1 := blk_cell K2.out (i := 1) rfl
  have c2 := blk_cell K2.out (i := 2) rfl
  have l2 := K2.out.lt
  go_wp2_with fail
  refine (HFW.out _).mono ?_
  rintro e3 w3 ⟨rfl, hb3⟩
  have K2 := Lib.hid (K2.out.below hb3)
  have HB := Lib.hid (HB.out.trans (hb3.mono HB.out.size))
  clear hb3 HFW c0 c1 c2 l2
  by_cases hfew : nb ≤ 8 ∧ ng ≤ 32
  · obtain ⟨h8, h32⟩ := hfew
    have e81 : decide (nb ≤ 8) = true := decide_eq_true h8
    have e82 : decide (ng ≤ 32) = true := decide_eq_true h32
    rw [e81, e82]
    have HCP := Lib.hid (HCP0.out h8 h32)
    have HMI := Lib.hid (HMI.out h8)
    have HRS := Lib.hid (HRS.out h8)
    clear e81 e82 HCP0 h8 h32
    have c0 := blk_cell K2.out (i := 0) rfl
    have c1 := blk_cell K2.out (i := 1) rfl
    have c2 := blk_cell K2.out (i := 2) rfl
    have l2 := K2.out.lt
    go_wp2_with fail
    refine (HCP.out _ HB.out).mono ?_
    rintro e1 w4 ⟨a1, p1, a2, p2, rfl, hb1, hbr1, hgr1⟩
    have HB := Lib.hid (HB.out.trans (hb1.mono HB.out.size))
    have K2 := Lib.hid (K2.out.below hb1)
    have HBR := Lib.hid hbr1
    have HGR := Lib.hid hgr1
    clear hb1 hbr1 hgr1 c0 c1 c2 l2
    go_wp2_with fail
    refine (HCM.out a1 a2 p1 p2 w4 HBR.out HGR.out).mono ?_
    rintro e5 w5 ⟨rfl, hb5⟩
    have HB := Lib.hid (HB.out.trans (hb5.mono HB.out.size))
    have K2 := Lib.hid (K2.out.below hb5)
    clear hb5 HBR HGR HCM
    have c0 := blk_cell K2.out (i := 0) rfl
    have c1 := blk_cell K2.out (i := 1) rfl
    have c2 := blk_cell K2.out (i := 2) rfl
    have l2 := K2.out.lt
    go_wp2_with fail
    refine (HCP.out _ HB.out).mono ?_
    rintro e1 w6 ⟨a3, p3, a4, p4, rfl, hb1, hbr1, hgr1⟩
    have HB := Lib.hid (HB.out.trans (hb1.mono HB.out.size))
    have K2 := Lib.hid (K2.out.below hb1)
    have HBR := Lib.hid hbr1
    have HGR := Lib.hid hgr1
    clear hb1 hbr1 hgr1 c0 c1 c2 l2
    go_wp2_with fail
    refine (HMI.out a3 a4 p3 p4 w6 HBR.out HGR.out).mono ?_
    rintro e7 w7 ⟨al, nl, cl, rfl, hb7, hr7⟩
    have HB := Lib.hid (HB.out.trans (hb7.mono HB.out.size))
    have K2 := Lib.hid (K2.out.below hb7)
    have HR := Lib.hid hr7
    clear hb7 hr7 HBR HGR HMI HCP
    have c0 := blk_cell K2.out (i := 0) rfl
    have c1 := blk_cell K2.out (i := 1) rfl
    have c2 := blk_cell K2.out (i := 2) rfl
    have l2 := K2.out.lt
    go_wp2_with fail
    refine (HRC.out _ HB.out).mono ?_
    rintro e8 w8 ⟨rfl, hb8⟩
    have HB := Lib.hid (HB.out.trans (hb8.mono HB.out.size))
    have K2 := Lib.hid (K2.out.below hb8)
    have HR := Lib.hid (IntsR.below HR.out hb8)
    clear hb8 HRC c0 c1 c2 l2
    have x1 : (E2 != E2) = false := by simp
    have x2 : (E1 != E1) = false := by simp
    have c0 := blk_cell K2.out (i := 0) rfl
    have c1 := blk_cell K2.out (i := 1) rfl
    have c2 := blk_cell K2.out (i := 2) rfl
    have l2 := K2.out.lt
    by_cases h0 : E2 = 0
    · subst h0
      have HM1 := Lib.hid (show ME = E3 from by rw [HMM.out]; show (if (0 : Int) = 0 then (if E3 = 0 then 0 else E3) else 0) = E3; split <;> simp_all)
      go_wp2_with fail
      refine (HRS.out _).mono ?_
      rintro e9 w9 ⟨rfl, hb9⟩
      have HB := Lib.hid (HB.out.trans (hb9.mono HB.out.size))
      have K2 := Lib.hid (K2.out.below hb9)
      have HR := Lib.hid (IntsR.below HR.out hb9)
      clear hb9 HRS c0 c1 c2 l2
      by_cases h3 : E3 = 0
      · subst h3
        have hm0 : ME = 0 := HM1.out
        obtain ⟨n, rfl, hmv⟩ := HRM.out hm0
        have HMV := Lib.hid (hmv w9 HB.out)
        have HRX := Lib.hid (show RL = nats (movL m n) from by rw [HRL.out, if_pos hm0, Int.toNat_natCast])
        subst hm0
        clear hmv HRM HRL HMM
        have c0 := blk_cell K2.out (i := 0) rfl
        have c1 := blk_cell K2.out (i := 1) rfl
        have c2 := blk_cell K2.out (i := 2) rfl
        have l2 := K2.out.lt
        go_wp2_with fail
        refine HMV.out.mono ?_
        rintro e10 w10 ⟨a', n', c', rfl, hb10, hr10⟩
        have HB := Lib.hid (HB.out.trans (hb10.mono HB.out.size))
        have hR := HR.out
        rw [HRX.out] at hR
        have HR := Lib.hid (IntsR.below hR hb10)
        have HR2 := Lib.hid hr10
        clear hb10 hr10 hR c0 c1 c2 l2
        go_wp2_with fail
        refine (ints_any _ _ _ _ _ _ _ _ _ HR.out HR2.out).mono ?_
        rintro e11 w11 ⟨rfl, k, rfl⟩
        go_wp2
        go_ret
        exact ⟨ret_bool (by simp), by have := HB.out; (repeat' (first | (with_reducible exact Below.refl _ _) | (with_reducible assumption) | (with_reducible refine Below.drewN ?_ _) | (with_reducible refine Below.alloc ?_ ?_ _) | (with_reducible refine Below.drew ?_) | (with_reducible refine Below.setCell ?_ ?_ _) | (with_reducible refine Below.step (by assumption) ?_ ?_) | (with_reducible exact And.left (by assumption)) | go_size))⟩
      · have hm0 : ¬ ME = 0 := by rw [HM1.out]; exact h3
        have hl0 : nl = 0 := by
          have := HR.out.len
          rw [HRL.out, if_neg hm0] at this
          simpa [nats] using this.symm
        subst hl0
        have e1 := bne_iff_ne.2 h3
        have hme : ME = E3 := HM1.out
        subst hme
        clear h3 hm0
        go_wp2
        go_ret
        exact ⟨ret_bool (by simp), HB.out⟩
    · have HM1 := Lib.hid (show ME = E2 from by rw [HMM.out]; show (if E2 = 0 then _ else E2) = E2; rw [if_neg h0])
      have hm0 : ¬ ME = 0 := by rw [HM1.out]; exact h0
      have hl0 : nl = 0 := by
        have := HR.out.len
        rw [HRL.out, if_neg hm0] at this
        simpa [nats] using this.symm
      subst hl0
      have e1 := bne_iff_ne.2 h0
      have e2 : (E2 == 0) = false := by simpa using h0
      have hme : ME = E2 := HM1.out
      subst hme
      clear h0 hm0
      go_wp2
      go_ret
      exact ⟨ret_bool (by simp), HB.out⟩
  · have e81 : (decide (nb ≤ 8) && decide (ng ≤ 32)) = false := by
      rw [Bool.eq_false_iff]
      intro h
      rw [Bool.and_eq_true, decide_eq_true_eq, decide_eq_true_eq] at h
      exact hfew h
    rw [e81]
    clear e81 hfew
    go_wp2
    go_ret
    exact ⟨rfl, HB.out⟩
end Go.Proofs.YtidboecjllaofaaGreat
