import Derived.Test.YtdklmcicogmeaaaGreatDXpl
/- Whether a set explains what was measured: the program's exported function. -/
namespace Go.Proofs.YtdklmcicogmeaaaGreat
open Go.RowKit
set_option linter.unusedVariables false

def clE (m : Nat) (S : List Int) (k : Nat) : Int := firstErr [unl (wi (S.getD k 0) 0 ((m : Int) - 1)) 6, unl (decide (k = 0) || decide (S.getD (k - 1) 0 < S.getD k 0)) 9]
def setE (m : Nat) (S : List Int) : Int := (firstAt (clE m S) S.length 0).2
def expE (s l : List T3) (fs : List Int) (rs : List (Int × Int)) (S : List Int) : Bool × Int :=
  if askE s l fs rs ≠ 0 then (false, askE s l fs rs) else if setE l.length S ≠ 0 then (false, setE l.length S) else (expB s l fs rs S, 0)
theorem setE_zero {m : Nat} {S : List Int} (h : setE m S = 0) : (∀ k, k < S.length → 0 ≤ S.getD k 0 ∧ S.getD k 0 < (m : Int)) ∧ ∀ k, k + 1 < S.length → S.getD k 0 < S.getD (k + 1) 0 := by
  have h1 := (firstAt_none _ _ h).2
  refine ⟨fun k hk => ?_, fun k hk => ?_⟩
  · have h2 := h1 k (by omega) (by omega)
    unfold clE at h2
    obtain ⟨h3, _⟩ := firstErr_cons.1 h2
    rw [unl_eq_zero (by omega), wi_iff] at h3
    omega
  · have h2 := h1 (k + 1) (by omega) (by omega)
    unfold clE at h2
    obtain ⟨_, h3⟩ := firstErr_cons.1 h2
    obtain ⟨h3, _⟩ := firstErr_cons.1 h3
    rw [unl_eq_zero (by omega)] at h3
    simpa using h3
theorem setE_few {m : Nat} {S : List Int} (h : setE m S = 0) : S.length ≤ m := by
  obtain ⟨h1, h2⟩ := setE_zero h
  have h3 : ∀ k, k < S.length → (k : Int) ≤ S.getD k 0 := by
    intro k
    induction k with
    | zero => intro hk; have := h1 0 hk; simpa using this.1
    | succ k ih => intro hk; have := ih (by omega); have := h2 k hk; omega
  rcases Nat.eq_zero_or_pos S.length with h0 | h0
  · omega
  · have := h3 (S.length - 1) (by omega)
    have := h1 (S.length - 1) (by omega)
    omega
theorem setE_mem {m : Nat} {S : List Int} (h : setE m S = 0) : ∀ i ∈ S, 0 ≤ i ∧ i < (m : Int) := fun i hi => by
  obtain ⟨k, hk, rfl⟩ := List.mem_iff_getElem.1 hi
  have := (setE_zero h).1 k hk
  rw [List.getD_eq_getElem?_getD, List.getElem?_eq_getElem hk] at this
  exact this
theorem IntsR.cellI {w : World} {b o : Nat} {n : Nat} {l : List Int} (h : IntsR w (some ⟨b, o, none⟩) n l) {k : Nat} (hk : k < n) : w.cell? ⟨b, o + k, none⟩ = some (.int .i64 (l.getD k 0)) := by
  have hl := h.len
  obtain ⟨b', o', e, _, hc⟩ := h.2.2 (by omega)
  simp only [Option.some.injEq, Addr.mk.injEq] at e
  obtain ⟨rfl, rfl, _⟩ := e
  refine hc k _ ?_
  unfold icells
  rw [List.getElem?_map, List.getD_eq_getElem?_getD, List.getElem?_eq_getElem (by omega)]
  rfl
theorem IntsR.block {w : World} {a : Option Addr} {n : Nat} {l : List Int} (h : IntsR w a n l) (hn : 0 < n) : ∃ b o, a = some ⟨b, o, none⟩ ∧ b < w.heap.size := by
  obtain ⟨b, o, e, hb, _⟩ := h.2.2 hn
  exact ⟨b, o, e, hb⟩
set_option maxHeartbeats 2000000 in
set_option maxRecDepth 100000 in
theorem explainsX_any (n c m cm nf cf nr cr q cq : Nat) (a ap af ar aq : Option Addr) (s l : List T3) (fs : List Int) (rs : List (Int × Int)) (S : List Int) (w : World) (hs : T3R w a n s) (hl : T3R w ap m l) (hf : IntsR w af nf fs) (hr : PairsR w ar nr rs) (hS : IntsR w aq q S) :
    Calls Tryz.prog 49 #[.agg #[.slice a n c], .slice ap m cm, .agg #[.slice af nf cf, .slice ar nr cr, .slice aq q cq]] w fun e' w' => e' = .returned (.tuple #[.bool (expE s l fs rs S).1, .int .i64 (expE s l fs rs S).2]) ∧ Below w.heap.size w w' := by
  have hq := hS.small
  have hm := hl.small
  have HSN := Lib.hid hS.len
  have HS := Lib.hid hS
  have HA := Lib.hid (fun (w' : World) (hb : Below w.heap.size w w') => ask_any n c m cm nf cf nr cr a ap af ar s l fs rs w' (hs.below hb) (hl.below hb) (hf.below hb) (hr.below hb))
  have HX := Lib.hid (fun (x a b : Int) w' => d_within_any x a b w')
  have HU := Lib.hid (fun (b : Bool) (e : Int) w' => d_unless_any b e w')
  have w1 : wrap64 ((m : Int) - 1) = (m : Int) - 1 := by unfold wrap64; omega
  have HEX := Lib.hid (fun (h0 : askE s l fs rs = 0) (h1 : setE m S = 0) (W : World) (hb : Below w.heap.size w W) => explains_any n c m cm nf cf nr cr q cq a ap af ar aq s l fs rs S W (hs.below hb) (hl.below hb) (hf.below hb) (hr.below hb) (hS.below hb) h0 (by have := setE_few h1; have := hS.len; omega) (setE_mem h1))
  have hV : expE s l fs rs S = if askE s l fs rs ≠ 0 then (false, askE s l fs rs) else if setE m S ≠ 0 then (false, setE m S) else (expB s l fs rs S, 0) := by unfold expE; rw [hl.len]
  have hSE : setE m S = (firstAt (clE m S) q 0).2 := by unfold setE; rw [hS.len]
  rw [hV]
  clear hV hs hl hf hr hS
  generalize askE s l fs rs = AE at *
  generalize expB s l fs rs S = EB at *
  by_cases h0 : AE = 0
  · subst h0
    rw [if_neg (by decide)]
    have HEXa := Lib.hid (HEX.out (by first | rfl | trivial))
    clear HEX
    have HSE := Lib.hid hSE
    clear hSE
    obtain ⟨SE, hSE⟩ : ∃ SE, SE = setE m S := ⟨_, rfl⟩
    rw [← hSE] at HEXa HSE ⊢
    clear hSE
    go_enter Tryz.func49, Tryz.ntmps49
    go_wp2_with fail
    refine (HA.out _ (by (repeat' (first | (with_reducible exact Below.refl _ _) | (with_reducible assumption) | (with_reducible refine Below.drewN ?_ _) | (with_reducible refine Below.alloc ?_ ?_ _) | (with_reducible refine Below.drew ?_) | (with_reducible refine Below.setCell ?_ ?_ _) | (with_reducible refine Below.step (by assumption) ?_ ?_) | (with_reducible exact And.left (by assumption)) | go_size)))).mono ?_
    rintro e5 w5 ⟨rfl, hb5⟩
    have p0 : w5.cell? ⟨w.heap.size + 1, 2, none⟩ = some (.slice aq q cq) := by { rw [cellB hb5 _ _ (by first | (simp; done) | (simp; omega) | omega)]; all_goals (first | assumption | go_simp) }
    have HB5 := Lib.hid (show Below w.heap.size w w5 from Below.trans (by (repeat' (first | (with_reducible exact Below.refl _ _) | (with_reducible assumption) | (with_reducible refine Below.drewN ?_ _) | (with_reducible refine Below.alloc ?_ ?_ _) | (with_reducible refine Below.drew ?_) | (with_reducible refine Below.setCell ?_ ?_ _) | (with_reducible refine Below.step (by assumption) ?_ ?_) | (with_reducible exact And.left (by assumption)) | go_size))) (hb5.mono (by simp; omega)))
    have z5 : w.heap.size + 1 < w5.heap.size := by have := hb5.size; simp at this; omega
    clear hb5 HA
    go_wp2_with fail
    generalize hW : World.alloc _ _ = wl
    have hbl : Below w5.heap.size w5 wl := by rw [← hW]; (repeat' (first | (with_reducible exact Below.refl _ _) | (with_reducible assumption) | (with_reducible refine Below.drewN ?_ _) | (with_reducible refine Below.alloc ?_ ?_ _) | (with_reducible refine Below.drew ?_) | (with_reducible refine Below.setCell ?_ ?_ _) | (with_reducible refine Below.step (by assumption) ?_ ?_) | (with_reducible exact And.left (by assumption)) | go_size))
    have x0 : wl.cell? ⟨w5.heap.size, 0, none⟩ = some (.slice a n c) := by { rw [← hW]; clear hW; go_simp }
    have x1 : wl.cell? ⟨w5.heap.size, 1, none⟩ = some (.slice ap m cm) := by { rw [← hW]; clear hW; go_simp }
    have x2 : wl.cell? ⟨w5.heap.size, 2, none⟩ = some (.slice af nf cf) := by { rw [← hW]; clear hW; go_simp }
    have x3 : wl.cell? ⟨w5.heap.size, 3, none⟩ = some (.slice ar nr cr) := by { rw [← hW]; clear hW; go_simp }
    have lx : w5.heap.size < wl.heap.size := by { rw [← hW]; clear hW; simp }
    have p1 : wl.cell? ⟨w.heap.size + 1, 2, none⟩ = some (.slice aq q cq) := by { rw [cellB hbl _ _ (by first | (simp; done) | (simp; omega) | omega)]; all_goals (first | assumption | go_simp) }
    have lp : w.heap.size + 1 < wl.heap.size := by omega
    have HBL := Lib.hid (HB5.out.trans (hbl.mono HB5.out.size))
    obtain ⟨X8, hX8⟩ : ∃ X, X = w5.heap.size := ⟨_, rfl⟩
    rw [← hX8] at x0 x1 x2 x3 lx ⊢
    clear hW hbl hX8 p0 z5 HB5
    go_loopw [27] (fun i wr => ∃ k : Nat, i = .int .i64 k ∧ k ≤ q ∧ Hid (firstAt (clE m S) (q - k) k = firstAt (clE m S) q 0) ∧ Hid (Below wl.heap.size wl wr)) (fun i _ => q - (intOf i).toNat)
    case atStart => exact ⟨0, rfl, Nat.zero_le _, Lib.hid rfl, Lib.hid (Below.refl _ _)⟩
    case round =>
      obtain ⟨k, rfl, hk, hF, hB⟩ := hrel
      have i0 : (0 : Int) ≤ (k : Int) := by omega
      have hbr := hB.out
      have hzr := hbr.size
      have HBW := Lib.hid (HBL.out.trans (hbr.mono HBL.out.size))
      have p1r : wr.cell? ⟨w.heap.size + 1, 2, none⟩ = some (.slice aq q cq) := by { rw [cellB hbr _ _ (by first | (simp; done) | (simp; omega) | omega)]; all_goals (first | assumption | go_simp) }; have lpr : w.heap.size + 1 < wr.heap.size := by { omega }
      by_cases hlt : k < q
      · have hSW := HS.out.below HBW.out
        obtain ⟨b0, o0, rfl, hb0⟩ := hSW.block (by omega)
        have c0 := hSW.cellI hlt
        have hF' := hF.out
        rw [firstAt_step hlt] at hF'
        obtain ⟨E, hEE⟩ : ∃ E, E = clE m S k := ⟨_, rfl⟩
        rw [← hEE] at hF'
        have HF := Lib.hid hF'
        have i1 : (k : Int) < (q : Int) := by omega
        by_cases hk0 : k = 0
        · subst hk0
          have hE2 : E = firstErr [unl (wi (S.getD 0 0) 0 ((m : Int) - 1)) 6, unl true 9] := hEE
          have HE := Lib.hid hE2
          rw [Nat.add_zero] at c0
          generalize S.getD 0 0 = x at *
          clear hF' hF hEE hE2 hSW hzr hbr
          go_wp2_with (first | (go_at_call 69; (with_reducible refine (HX.out _ _ _ _).mono ?_); rintro e w' ⟨rfl, rfl⟩) | (go_at_call 67; (with_reducible refine (HU.out _ _ _).mono ?_); rintro e w' ⟨rfl, rfl⟩))
          refine (d_first2 _ _ _ _ _ _ (by rfl) (by first | rfl | simp)).mono ?_
          rintro e10 w10 ⟨rfl, hw10⟩
          have hb10 : Below wr.heap.size wr w10 := by rw [← hw10]; (repeat' (first | (with_reducible exact Below.refl _ _) | (with_reducible assumption) | (with_reducible refine Below.drewN ?_ _) | (with_reducible refine Below.alloc ?_ ?_ _) | (with_reducible refine Below.drew ?_) | (with_reducible refine Below.setCell ?_ ?_ _) | (with_reducible refine Below.step (by assumption) ?_ ?_) | (with_reducible exact And.left (by assumption)) | go_size))
          have HB10 := Lib.hid (HBW.out.trans (hb10.mono HBW.out.size))
          have HB11 := Lib.hid (hB.out.trans (hb10.mono hB.out.size))
          clear hw10 hb10
          rw [← HE.out]
          by_cases hE0 : E ≠ 0
          · rw [if_pos hE0] at HF
            have hE1 : (E != 0) = true := by simpa using hE0
            have hSE := HSE.out
            rw [← HF.out] at hSE
            simp only at hSE
            subst hSE
            have HP := Lib.hid hE0
            clear hE0 HE
            go_wp2
            go_ret2
            exact ⟨by first | rfl | (rw [if_pos HP.out]), HB10.out⟩
          · rw [if_neg hE0] at HF
            have hE1 : (E != 0) = false := by simpa using hE0
            clear hE0 HE
            go_wp2
            go_roundw
            case rel => exact ⟨0 + 1, by go_num, by omega, HF, HB11⟩
            case measure => simp [intOf]; omega
        · have hE2 : E = firstErr [unl (wi (S.getD k 0) 0 ((m : Int) - 1)) 6, unl (decide (S.getD (k - 1) 0 < S.getD k 0)) 9] := by rw [hEE]; unfold clE; simp [hk0]
          have HE := Lib.hid hE2
          have c1 := hSW.cellI (show k - 1 < q by omega)
          have hkb : ((k : Int) == 0) = false := by simp; omega
          have w1' : IntKind.i64.wrap ((k : Int) - 1) = (k : Int) - 1 := by rw [IntKind.wrap_i64]; omega
          have w2 : ((k : Int) - 1).toNat = k - 1 := by omega
          have w3 : ¬ (k : Int) < 1 := by omega
          have w4 : (0 : Int) ≤ (k : Int) - 1 := by omega
          have w5' : (k : Int) - 1 < (q : Int) := by omega
          have w6' : (1 : Int) ≤ (k : Int) := by omega
          generalize S.getD k 0 = x at *
          generalize S.getD (k - 1) 0 = y at *
          clear hF' hF hEE hE2 hSW hzr hbr hk0
          go_wp2_with (first | (go_at_call 69; (with_reducible refine (HX.out _ _ _ _).mono ?_); rintro e w' ⟨rfl, rfl⟩) | (go_at_call 67; (with_reducible refine (HU.out _ _ _).mono ?_); rintro e w' ⟨rfl, rfl⟩))
          refine (d_first2 _ _ _ _ _ _ (by rfl) (by first | rfl | simp)).mono ?_
          rintro e10 w10 ⟨rfl, hw10⟩
          have hb10 : Below wr.heap.size wr w10 := by rw [← hw10]; (repeat' (first | (with_reducible exact Below.refl _ _) | (with_reducible assumption) | (with_reducible refine Below.drewN ?_ _) | (with_reducible refine Below.alloc ?_ ?_ _) | (with_reducible refine Below.drew ?_) | (with_reducible refine Below.setCell ?_ ?_ _) | (with_reducible refine Below.step (by assumption) ?_ ?_) | (with_reducible exact And.left (by assumption)) | go_size))
          have HB10 := Lib.hid (HBW.out.trans (hb10.mono HBW.out.size))
          have HB11 := Lib.hid (hB.out.trans (hb10.mono hB.out.size))
          clear hw10 hb10
          rw [← HE.out]
          by_cases hE0 : E ≠ 0
          · rw [if_pos hE0] at HF
            have hE1 : (E != 0) = true := by simpa using hE0
            have hSE := HSE.out
            rw [← HF.out] at hSE
            simp only at hSE
            subst hSE
            have HP := Lib.hid hE0
            clear hE0 HE
            go_wp2
            go_ret2
            exact ⟨by first | rfl | (rw [if_pos HP.out]), HB10.out⟩
          · rw [if_neg hE0] at HF
            have hE1 : (E != 0) = false := by simpa using hE0
            clear hE0 HE
            go_wp2
            go_roundw
            case rel => exact ⟨k + 1, by go_num, by omega, HF, HB11⟩
            case measure => simp [intOf]; omega
      · obtain rfl : k = q := by omega
        have HF := Lib.hid (hF.out.symm.trans (firstAt_end (by omega)))
        have hSE := HSE.out
        rw [HF.out] at hSE
        simp only at hSE
        subst hSE
        have HEXb := Lib.hid (HEXa.out (by first | rfl | trivial))
        have y0 : wr.cell? ⟨X8, 0, none⟩ = some (.slice a n c) := by { rw [cellB hbr _ _ (by first | (simp; done) | (simp; omega) | omega)]; all_goals (first | assumption | go_simp) }; have y1 : wr.cell? ⟨X8, 1, none⟩ = some (.slice ap m cm) := by { rw [cellB hbr _ _ (by first | (simp; done) | (simp; omega) | omega)]; all_goals (first | assumption | go_simp) }; have y2 : wr.cell? ⟨X8, 2, none⟩ = some (.slice af nf cf) := by { rw [cellB hbr _ _ (by first | (simp; done) | (simp; omega) | omega)]; all_goals (first | assumption | go_simp) }; have y3 : wr.cell? ⟨X8, 3, none⟩ = some (.slice ar nr cr) := by { rw [cellB hbr _ _ (by first | (simp; done) | (simp; omega) | omega)]; all_goals (first | assumption | go_simp) }; have ly : X8 < wr.heap.size := by { omega }
        clear hF HEXa HSE
        go_wp2_with fail
        refine (HEXb.out _ HBW.out).mono ?_
        rintro e9 w9 ⟨rfl, hb9⟩
        go_wp2
        go_ret2
        exact ⟨rfl, HBW.out.trans (hb9.mono HBW.out.size)⟩
  · rw [if_pos h0]
    have e1 : (AE != 0) = true := by simpa using h0
    clear h0 HEX hSE HS HSN
    go_enter Tryz.func49, Tryz.ntmps49
    go_wp2_with fail
    refine (HA.out _ (by (repeat' (first | (with_reducible exact Below.refl _ _) | (with_reducible assumption) | (with_reducible refine Below.drewN ?_ _) | (with_reducible refine Below.alloc ?_ ?_ _) | (with_reducible refine Below.drew ?_) | (with_reducible refine Below.setCell ?_ ?_ _) | (with_reducible refine Below.step (by assumption) ?_ ?_) | (with_reducible exact And.left (by assumption)) | go_size)))).mono ?_
    rintro e5 w5 ⟨rfl, hb5⟩
    have HB5 := Lib.hid (show Below w.heap.size w w5 from Below.trans (by (repeat' (first | (with_reducible exact Below.refl _ _) | (with_reducible assumption) | (with_reducible refine Below.drewN ?_ _) | (with_reducible refine Below.alloc ?_ ?_ _) | (with_reducible refine Below.drew ?_) | (with_reducible refine Below.setCell ?_ ?_ _) | (with_reducible refine Below.step (by assumption) ?_ ?_) | (with_reducible exact And.left (by assumption)) | go_size))) (hb5.mono (by simp; omega)))
    clear hb5 HA
    go_wp2
    go_ret2
    exact ⟨rfl, HB5.out.alloc HB5.out.size _⟩
end Go.Proofs.YtdklmcicogmeaaaGreat
