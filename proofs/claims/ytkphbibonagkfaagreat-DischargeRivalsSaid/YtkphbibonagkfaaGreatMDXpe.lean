import Derived.Test.YtkphbibonagkfaaGreatDExp
import Derived.Test.YtkphbibonagkfaaGreatDXpl
import Derived.Test.YtkphbibonagkfaaGreatMDAsk
import Derived.Test.YtkphbibonagkfaaGreatMDDef2
import Derived.Test.YtkphbibonagkfaaGreatMDRErr
import Derived.Test.YtkphbibonagkfaaGreatMRResp
import Derived.Test.YtkphbibonagkfaaGreatRDfm
/- Whether a set explains what was measured: the program's exported function. -/
namespace Go.Proofs.YtkphbibonagkfaaGreat
open Go.RowKit
set_option linter.unusedVariables false

def clE (m : Nat) (S : List Int) (k : Nat) : Int := firstErr [unl (wi (S.getD k 0) 0 ((m : Int) - 1)) 6, unl (decide (k = 0) || decide (S.getD (k - 1) 0 < S.getD k 0)) 9]
def setE (m : Nat) (S : List Int) : Int := (firstAt (clE m S) S.length 0).2
def expE (s l : List T3) (fs : List Int) (rs : List (Int × Int)) (S : List Int) : Bool × Int :=
  if askE s l fs rs ≠ 0 then (false, askE s l fs rs) else if setE l.length S ≠ 0 then (false, setE l.length S) else (expB s l fs rs S, 0)
theorem setE_zero {m : Nat} {S : List Int} (h : setE m S = 0) : (∀ k, k < S.length → 0 ≤ S.getD k 0 ∧ S.getD k 0 < (m : Int)) ∧ ∀ k, k + 1 < S.length → S.getD k 0 < S.getD (k + 1) 0 := by
  have h1 := (firstAt_none _ _ h).2
  refine ⟨fun k hk => ?_, fun k hk => ?_⟩
  · have h2 := h1 k (by omega) (by omega)
    unfold clE at h2
    obtain ⟨h3, _⟩ := firstErr_cons.1 h2
    rw [unl_eq_zero (by omega), wi_iff] at h3
    omega
  · have h2 := h1 (k + 1) (by omega) (by omega)
    unfold clE at h2
    obtain ⟨_, h3⟩ := firstErr_cons.1 h2
    obtain ⟨h3, _⟩ := firstErr_cons.1 h3
    rw [unl_eq_zero (by omega)] at h3
    simpa using h3
theorem setE_few {m : Nat} {S : List Int} (h : setE m S = 0) : S.length ≤ m := by
  obtain ⟨h1, h2⟩ := setE_zero h
  have h3 : ∀ k, k < S.length → (k : Int) ≤ S.getD k 0 := by
    intro k
    induction k with
    | zero => intro hk; have := h1 0 hk; simpa using this.1
    | succ k ih => intro hk; have := ih (by omega); have := h2 k hk; omega
  rcases Nat.eq_zero_or_pos S.length with h0 | h0
  · omega
  · have := h3 (S.length - 1) (by omega)
    have := h1 (S.length - 1) (by omega)
    omega
theorem setE_mem {m : Nat} {S : List Int} (h : setE m S = 0) : ∀ i ∈ S, 0 ≤ i ∧ i < (m : Int) := fun i hi => by
  obtain ⟨k, hk, rfl⟩ := List.mem_iff_getElem.1 hi
  have := (setE_zero h).1 k hk
  rw [List.getD_eq_getElem?_getD, List.getElem?_eq_getElem hk] at this
  exact this
theorem IntsR.cellI {w : World} {b o : Nat} {n : Nat} {l : List Int} (h : IntsR w (some ⟨b, o, none⟩) n l) {k : Nat} (hk : k < n) : w.cell? ⟨b, o + k, none⟩ = some (.int .i64 (l.getD k 0)) := by
  have hl := h.len
  obtain ⟨b', o', e, _, hc⟩ := h.2.2 (by omega)
  simp only [Option.some.injEq, Addr.mk.injEq] at e
  obtain ⟨rfl, rfl, _⟩ := e
  refine hc k _ ?_
  unfold icells
  rw [List.getElem?_map, List.getD_eq_getElem?_getD, List.getElem?_eq_getElem (by omega)]
  rfl
theorem IntsR.block {w : World} {a : Option Addr} {n : Nat} {l : List Int} (h : IntsR w a n l) (hn : 0 < n) : ∃ b o, a = some ⟨b, o, none⟩ ∧ b < w.heap.size := by
  obtain ⟨b, o, e, hb, _⟩ := h.2.2 hn
  exact ⟨b, o, e, hb⟩
set_option maxHeartbeats 2000000 in
set_option maxRecDepth 100000 in
theorem explainsX_any (n c m cm nf cf nr cr q cq : Nat) (a ap af ar aq : Option Addr) (s l : List T3) (fs : List Int) (rs : List (Int × Int)) (S : List Int) (w : World) (hs : T3R w a n s) (hl : T3R w ap m l) (hf : IntsR w af nf fs) (hr : PairsR w ar nr rs) (hS : IntsR w aq q S) :
    Calls Tryz.prog 45 #[.agg #[.slice a n c], .slice ap m cm, .agg #[.slice af nf cf, .slice ar nr cr, .slice aq q cq]] w fun e' w' => e' = .returned (.tuple #[.bool (expE s l fs rs S).1, .int .i64 (expE s l fs rs S).2]) ∧ Below w.heap.size w w' := by
  have hq := hS.small
  have hm := hl.small
  have HSN := Lib.hid hS.len
  have HS := Lib.hid hS
  have HA := Lib.hid (fun (w' : World) (hb : Below w.heap.size w w') => ask_any n c m cm nf cf nr cr a ap af ar s l fs rs w' (hs.below hb) (hl.below hb) (hf.below hb) (hr.below hb))
  have HX := Lib.hid (fun (x a b : Int) w' => d_within_any x a b w')
  have HU := Lib.hid (fun (b : Bool) (e : Int) w' => d_unless_any b e w')
  have w1 : wrap64 ((m : Int) - 1) = (m : Int) - 1 := by unfold wrap64; omega
  have HEX := Lib.hid (fun (h0 : askE s l fs rs = 0) (h1 : setE m S = 0) (W : World) (hb : Below w.heap.size w W) => explains_any n c m cm nf cf nr cr q cq a ap af ar aq s l fs rs S W (hs.below hb) (hl.below hb) (hf.below hb) (hr.below hb) (hS.below hb) h0 (by have := setE_few h1; have := hS.len; omega) (setE_mem h1))
  have hV : expE s l fs rs S = if askE s l fs rs ≠ 0 then (false, askE s l fs rs) else if setE m S ≠ 0 then (false, setE m S) else (expB s l fs rs S, 0) := by unfold expE; rw [hl.len]
  have hSE : setE m S = (firstAt (clE m S) q 0).2 := by unfold setE; rw [hS.len]
  rw [hV]
  clear hV hs hl hf hr hS
  generalize askE s l fs rs = AE at *
  generalize expB s l fs rs S = EB at *
  by_cases h0 : AE = 0
  · subst h0
    rw [if_neg (by decide)]
    have HEXa := Lib.hid (HEX.out (by first | rfl | trivial))
    clear HEX
    have HSE := Lib.hid hSE
    clear hSE
    obtain ⟨SE, hSE⟩ : ∃ SE, SE = setE m S := ⟨_, rfl⟩
    rw [← hSE] at HEXa HSE ⊢
    clear hSE
    go_enter Tryz.func45, Tryz.ntmps45
    go_wp2_with fail
    refine (HA.out _ (by (repeat' (first | (with_reducible exact Below.refl _ _) | (with_reducible assumption) | (with_reducible refine Below.drewN ?_ _) | (with_reducible refine Below.alloc ?_ ?_ _) | (with_reducible refine Below.drew ?_) | (with_reducible refine Below.setCell ?_ ?_ _) | (with_reducible refine Below.step (by assumption) ?_ ?_) | (with_reducible exact And.left (by assumption)) | go_size)))).mono ?_
    rintro e5 w5 ⟨rfl, hb5⟩
    have p0 : w5.cell? ⟨w.heap.size + 1, 2, none⟩ = some (.slice aq q cq) := by { rw [cellB hb5 _ _ (by first | (simp; done) | (simp; omega) | omega)]; all_goals (first | assumption | go_simp) }
    have HB5 := Lib.hid (show Below w.heap.size w w5 from Below.trans (by (repeat' (first | (with_reducible exact Below.refl _ _) | (with_reducible assumption) | (with_reducible refine Below.drewN ?_ _) | (with_reducible refine Below.alloc ?_ ?_ _) | (with_reducible refine Below.drew ?_) | (with_reducible refine Below.setCell ?_ ?_ _) | (with_reducible refine Below.step (by assumption) ?_ ?_) | (with_reducible exact And.left (by assumption)) | go_size))) (hb5.mono (by simp; omega)))
    have z5 : w.heap.size + 1 < w5.heap.size := by have := hb5.size; simp at this; omega
    clear hb5 HA
    go_wp2_with fail
    generalize hW : World.alloc _ _ = wl
    have hbl : Below w5.heap.size w5 wl := by rw [← hW]; (repeat' (first | (with_reducible exact Below.refl _ _) | (with_reducible assumption) | (with_reducible refine Below.drewN ?_ _) | (with_reducible refine Below.alloc ?_ ?_ _) | (with_reducible refine Below.drew ?_) | (with_reducible refine Below.setCell ?_ ?_ _) | (with_reducible refine Below.step (by assumption) ?_ ?_) | (with_reducible exact And.left (by assumption)) | go_size))
    have x0 : wl.cell? ⟨w5.heap.size, 0, none⟩ = some (.slice a n c) := by { rw [← hW]; clear hW; go_simp }
    have x1 : wl.cell? ⟨w5.heap.size, 1, none⟩ = some (.slice ap m cm) := by { rw [← hW]; clear hW; go_simp }
    have x2 : wl.cell? ⟨w5.heap.size, 2, none⟩ = some (.slice af nf cf) := by { rw [← hW]; clear hW; go_simp }
    have x3 : wl.cell? ⟨w5.heap.size, 3, none⟩ = some (.slice ar nr cr) := by { rw [← hW]; clear hW; go_simp }
    have lx : w5.heap.size < wl.heap.size := by { rw [← hW]; clear hW; simp }
    have p1 : wl.cell? ⟨w.heap.size + 1, 2, none⟩ = some (.slice aq q cq) := by { rw [cellB hbl _ _ (by first | (simp; done) | (simp; omega) | omega)]; all_goals (first | assumption | go_simp) }
    have lp : w.heap.size + 1 < wl.heap.size := by omega
    have HBL := Lib.hid (HB5.out.trans (hbl.mono HB5.out.size))
    obtain ⟨X8, hX8⟩ : ∃ X, X = w5.heap.size := ⟨_, rfl⟩
    rw [← hX8] at x0 x1 x2 x3 lx ⊢
    clear hW hbl hX8 p0 z5 HB5
    go_loopw [27] (fun i wr => ∃ k : Nat, i = .int .i64 k ∧ k ≤ q ∧ Hid (firstAt (clE m S) (q - k) k = firstAt (clE m S) q 0) ∧ Hid (Below wl.heap.size wl wr)) (fun i _ => q - (intOf i).toNat)
    case atStart => exact ⟨0, rfl, Nat.zero_le _, Lib.hid rfl, Lib.hid (Below.refl _ _)⟩
    case round =>
      obtain ⟨k, rfl, hk, hF, hB⟩ := hrel
      have i0 : (0 : Int) ≤ (k : Int) := by omega
      have hbr := hB.out
      have hzr := hbr.size
      have HBW := Lib.hid (HBL.out.trans (hbr.mono HBL.out.size))
      have p1r : wr.cell? ⟨w.heap.size + 1, 2, none⟩ = some (.slice aq q cq) := by { rw [cellB hbr _ _ (by first | (simp; done) | (simp; omega) | omega)]; all_goals (first | assumption | go_simp) }; have lpr : w.heap.size + 1 < wr.heap.size := by { omega }
      by_cases hlt : k < q
      · have hSW := HS.out.below HBW.out
        obtain ⟨b0, o0, rfl, hb0⟩ := hSW.block (by omega)
        have c0 := hSW.cellI hlt
        have hF' := hF.out
        rw [firstAt_step hlt] at hF'
        obtain ⟨E, hEE⟩ : ∃ E, E = clE m S k := ⟨_, rfl⟩
        rw [← hEE] at hF'
        have HF := Lib.hid hF'
        have i1 : (k : Int) < (q : Int) := by omega
        by_cases hk0 : k = 0
        · subst hk0
          have hE2 : E = firstErr [unl (wi (S.getD 0 0) 0 ((m : Int) - 1)) 6, unl true 9] := hEE
          have HE := Lib.hid hE2
          rw [Nat.add_zero] at c0
          generalize S.getD 0 0 = x at *
          clear hF' hF hEE hE2 hSW hzr hbr
          go_wp2_with (first | (go_at_call 88; (with_reducible refine (HX.out _ _ _ _).mono ?_); rintro e w' ⟨rfl, rfl⟩) | (go_at_call 89; (with_reducible refine (HU.out _ _ _).mono ?_); rintro e w' ⟨rfl, rfl⟩))
          refine (d_first2 _ _ _ _ _ _ (by rfl) (by first | rfl | simp)).mono ?_
          rintro e10 w10 ⟨rfl, hw10⟩
          have hb10 : Below wr.heap.size wr w10 := by rw [← hw10]; (repeat' (first | (with_reducible exact Below.refl _ _) | (with_reducible assumption) | (with_reducible refine Below.drewN ?_ _) | (with_reducible refine Below.alloc ?_ ?_ _) | (with_reducible refine Below.drew ?_) | (with_reducible refine Below.setCell ?_ ?_ _) | (with_reducible refine Below.step (by assumption) ?_ ?_) | (with_reducible exact And.left (by assumption)) | go_size))
          have HB10 := Lib.hid (HBW.out.trans (hb10.mono HBW.out.size))
          have HB11 := Lib.hid (hB.out.trans (hb10.mono hB.out.size))
          clear hw10 hb10
          rw [← HE.out]
          by_cases hE0 : E ≠ 0
          · rw [if_pos hE0] at HF
            have hE1 : (E != 0) = true := by simpa using hE0
            have hSE := HSE.out
            rw [← HF.out] at hSE
            simp only at hSE
            subst hSE
            have HP := Lib.hid hE0
            clear hE0 HE
            go_wp2
            go_ret2
            exact ⟨by first | rfl | (rw [if_pos HP.out]), HB10.out⟩
          · rw [if_neg hE0] at HF
            have hE1 : (E != 0) = false := by simpa using hE0
            clear hE0 HE
            go_wp2
            go_roundw
            case rel => exact ⟨0 + 1, by go_num, by omega, HF, HB11⟩
            case measure => simp [intOf]; omega
        · have hE2 : E = firstErr [unl (wi (S.getD k 0) 0 ((m : Int) - 1)) 6, unl (decide (S.getD (k - 1) 0 < S.getD k 0)) 9] := by rw [hEE]; unfold clE; simp [hk0]
          have HE := Lib.hid hE2
          have c1 := hSW.cellI (show k - 1 < q by omega)
          have hkb : ((k : Int) == 0) = false := by simp; omega
          have w1' : IntKind.i64.wrap ((k : Int) - 1) = (k : Int) - 1 := by rw [IntKind.wrap_i64]; omega
          have w2 : ((k : Int) - 1).toNat = k - 1 := by omega
          have w3 : ¬ (k : Int) < 1 := by omega
          have w4 : (0 : Int) ≤ (k : Int) - 1 := by omega
          have w5' : (k : Int) - 1 < (q : Int) := by omega
          have w6' : (1 : Int) ≤ (k : Int) := by omega
          generalize S.getD k 0 = x at *
          generalize S.getD (k - 1) 0 = y at *
          clear hF' hF hEE hE2 hSW hzr hbr hk0
          go_wp2_with (first | (go_at_call 88; (with_reducible refine (HX.out _ _ _ _).mono ?_); rintro e w' ⟨rfl, rfl⟩) | (go_at_call 89; (with_reducible refine (HU.out _ _ _).mono ?_); rintro e w' ⟨rfl, rfl⟩))
          refine (d_first2 _ _ _ _ _ _ (by rfl) (by first | rfl | simp)).mono ?_
          rintro e10 w10 ⟨rfl, hw10⟩
          have hb10 : Below wr.heap.size wr w10 := by rw [← hw10]; (repeat' (first | (with_reducible exact Below.refl _ _) | (with_reducible assumption) | (with_reducible refine Below.drewN ?_ _) | (with_reducible refine Below.alloc ?_ ?_ _) | (with_reducible refine Below.drew ?_) | (with_reducible refine Below.setCell ?_ ?_ _) | (with_reducible refine Below.step (by assumption) ?_ ?_) | (with_reducible exact And.left (by assumption)) | go_size))
          have HB10 := Lib.hid (HBW.out.trans (hb10.mono HBW.out.size))
          have HB11 := Lib.hid (hB.out.trans (hb10.mono hB.out.size))
          clear hw10 hb10
          rw [← HE.out]
          by_cases hE0 : E ≠ 0
          · rw [if_pos hE0] at HF
            have hE1 : (E != 0) = true := by simpa using hE0
            have hSE := HSE.out
            rw [← HF.out] at hSE
            simp only at hSE
            subst hSE
            have HP := Lib.hid hE0
            clear hE0 HE
            go_wp2
            go_ret2
            exact ⟨by first | rfl | (rw [if_pos HP.out]), HB10.out⟩
          · rw [if_neg hE0] at HF
            have hE1 : (E != 0) = false := by simpa using hE0
            clear hE0 HE
            go_wp2
            go_roundw
            case rel => exact ⟨k + 1, by go_num, by omega, HF, HB11⟩
            case measure => simp [intOf]; omega
      · obtain rfl : k = q := by omega
        have HF := Lib.hid (hF.out.symm.trans (firstAt_end (by omega)))
        have hSE := HSE.out
        rw [HF.out] at hSE
        simp only at hSE
        subst hSE
        have HEXb := Lib.hid (HEXa.out (by first | rfl | trivial))
        have y0 : wr.cell? ⟨X8, 0, none⟩ = some (.slice a n c) := by { rw [cellB hbr _ _ (by first | (simp; done) | (simp; omega) | omega)]; all_goals (first | assumption | go_simp) }; have y1 : wr.cell? ⟨X8, 1, none⟩ = some (.slice ap m cm) := by { rw [cellB hbr _ _ (by first | (simp; done) | (simp; omega) | omega)]; all_goals (first | assumption | go_simp) }; have y2 : wr.cell? ⟨X8, 2, none⟩ = some (.slice af nf cf) := by { rw [cellB hbr _ _ (by first | (simp; done) | (simp; omega) | omega)]; all_goals (first | assumption | go_simp) }; have y3 : wr.cell? ⟨X8, 3, none⟩ = some (.slice ar nr cr) := by { rw [cellB hbr _ _ (by first | (simp; done) | (simp; omega) | omega)]; all_goals (first | assumption | go_simp) }; have ly : X8 < wr.heap.size := by { omega }
        clear hF HEXa HSE
        go_wp2_with fail
        refine (HEXb.out _ HBW.out).mono ?_
        rintro e9 w9 ⟨rfl, hb9⟩
        go_wp2
        go_ret2
        exact ⟨rfl, HBW.out.trans (hb9.mono HBW.out.size)⟩
  · rw [if_pos h0]
    have e1 : (AE != 0) = true := by simpa using h0
    clear h0 HEX hSE HS HSN
    go_enter Tryz.func45, Tryz.ntmps45
    go_wp2_with fail
    refine (HA.out _ (by (repeat' (first | (with_reducible exact Below.refl _ _) | (with_reducible assumption) | (with_reducible refine Below.drewN ?_ _) | (with_reducible refine Below.alloc ?_ ?_ _) | (with_reducible refine Below.drew ?_) | (with_reducible refine Below.setCell ?_ ?_ _) | (with_reducible refine Below.step (by assumption) ?_ ?_) | (with_reducible exact And.left (by assumption)) | go_size)))).mono ?_
    rintro e5 w5 ⟨rfl, hb5⟩
    have HB5 := Lib.hid (show Below w.heap.size w w5 from Below.trans (by (repeat' (first | (with_reducible exact Below.refl _ _) | (with_reducible assumption) | (with_reducible refine Below.drewN ?_ _) | (with_reducible refine Below.alloc ?_ ?_ _) | (with_reducible refine Below.drew ?_) | (with_reducible refine Below.setCell ?_ ?_ _) | (with_reducible refine Below.step (by assumption) ?_ ?_) | (with_reducible exact And.left (by assumption)) | go_size))) (hb5.mono (by simp; omega)))
    clear hb5 HA
    go_wp2
    go_ret2
    exact ⟨rfl, HB5.out.alloc HB5.out.size _⟩
end Go.Proofs.YtkphbibonagkfaaGreat

/- What was measured: copies, the error, whether a set explains it: the reference's functions. -/
namespace Go.Proofs.YtkphbibonagkfaaGreat
open Go.RowKit
set_option linter.unusedVariables false

set_option maxRecDepth 100000 in
theorem copyGaussesO_any (l : List (Int × Int)) (a : Option Addr) (n c : Nat) (w : World) (h : PairsR w a n l) (hn : n ≤ 100000) :
    Calls Tryz.prog 52 #[.slice a n c] w fun e' w' => ∃ a' c', e' = .returned (.slice a' n c') ∧ Below w.heap.size w w' ∧ w'.ownsRow w.heap.size 62 2 (.slice a' n c') n (pcells l) := by
  have H := Lib.hid h
  clear h
  go_enter Tryz.func52, Tryz.ntmps52
  go_wp2_with (at_builtin; refine wpList_append_sl _ rfl _ _ 65 rfl w.heap.size 62 _ 2 16 Tryz.underlying65 infoGauss rfl (by omega) _ 0 _ rfl (World.ownsRow_made w #[] 0 (by omega) (by simp [maxLen]) rfl) _ n c (pcells l) rfl (H.out.below (by (repeat' (first | (with_reducible exact Below.refl _ _) | (with_reducible assumption) | (with_reducible refine Below.drewN ?_ _) | (with_reducible refine Below.alloc ?_ ?_ _) | (with_reducible refine Below.drew ?_) | (with_reducible refine Below.setCell ?_ ?_ _) | (with_reducible refine Below.step (by assumption) ?_ ?_) | (with_reducible exact And.left (by assumption)) | go_size)))) (pcells_one l) (by omega) (by omega) (by simp) ?_)
  intro v2 w2 hown2 _ hb2
  obtain ⟨a', c', rfl, _, _⟩ := owns_slice hown2
  have HO := Lib.hid hown2
  have HB := Lib.hid hb2
  clear hown2 hb2
  go_wp2
  go_ret
  exact ⟨a', c', rfl, Below.trans (by (repeat' (first | (with_reducible exact Below.refl _ _) | (with_reducible assumption) | (with_reducible refine Below.drewN ?_ _) | (with_reducible refine Below.alloc ?_ ?_ _) | (with_reducible refine Below.drew ?_) | (with_reducible refine Below.setCell ?_ ?_ _) | (with_reducible refine Below.step (by assumption) ?_ ?_) | (with_reducible exact And.left (by assumption)) | go_size))) HB.out, by simpa using HO.out⟩
set_option maxHeartbeats 1000000 in
set_option maxRecDepth 100000 in
theorem copyMeasured_any (fs : List Int) (rs : List (Int × Int)) (af ar : Option Addr) (nf cf nr cr : Nat) (w : World) (hf : IntsR w af nf fs) (hr : PairsR w ar nr rs) (h1 : nf ≤ 100000) (h2 : nr ≤ 100000) :
    Calls Tryz.prog 44 #[.agg #[.slice af nf cf, .slice ar nr cr]] w fun e' w' => ∃ a1 c1 a2 c2, e' = .returned (.agg #[.slice a1 nf c1, .slice a2 nr c2]) ∧ Below w.heap.size w w' ∧ IntsR w' a1 nf fs ∧ PairsR w' a2 nr rs := by
  have HCI := Lib.hid (fun (W : World) (hb : Below w.heap.size w W) => copyInts_any fs af nf cf W (hf.below hb) h1)
  have HCG := Lib.hid (fun (W : World) (hb : Below w.heap.size w W) => copyGaussesO_any rs ar nr cr W (hr.below hb) h2)
  clear hf hr h1 h2
  go_enter Tryz.func44, Tryz.ntmps44
  go_wp2_with fail
  generalize hW : World.alloc _ _ = w5
  have hb5 : Below w.heap.size w w5 := by rw [← hW]; (repeat' (first | (with_reducible exact Below.refl _ _) | (with_reducible assumption) | (with_reducible refine Below.drewN ?_ _) | (with_reducible refine Below.alloc ?_ ?_ _) | (with_reducible refine Below.drew ?_) | (with_reducible refine Below.setCell ?_ ?_ _) | (with_reducible refine Below.step (by assumption) ?_ ?_) | (with_reducible exact And.left (by assumption)) | go_size))
  have q0 : w5.cell? ⟨w.heap.size, 0, none⟩ = some (.slice af nf cf) := by { rw [← hW]; clear hW; go_simp }
  have q1 : w5.cell? ⟨w.heap.size, 1, none⟩ = some (.slice ar nr cr) := by { rw [← hW]; clear hW; go_simp }
  have z0 : w5.cell? ⟨w.heap.size + 1, 0, none⟩ = some (.slice none 0 0) := by { rw [← hW]; clear hW; go_simp }
  have z1 : w5.cell? ⟨w.heap.size + 1, 1, none⟩ = some (.slice none 0 0) := by { rw [← hW]; clear hW; go_simp }
  have f0 : w5.frozen? ⟨w.heap.size + 1, 0, none⟩ = false := by { rw [← hW]; clear hW; go_simp }
  have f1 : w5.frozen? ⟨w.heap.size + 1, 1, none⟩ = false := by { rw [← hW]; clear hW; go_simp }
  have z5 : w5.heap.size = w.heap.size + 1 + 1 := by { rw [← hW]; clear hW; simp }
  have ok0 : OkB w.heap.size w5.heap.size (w.heap.size + 1) := ⟨by omega, by omega⟩
  have HB5 := Lib.hid hb5
  have l1 : w.heap.size + 1 < w5.heap.size := by omega
  have HZ := Lib.hid z5
  clear hW hb5 z5
  refine wp_region_laterC (B := w5.heap.size) (b0 :=  w.heap.size + 1) [(true, 0), (true, 1), (true, 3), (true, 4), (false, 2), (false, 5), (true, 6), (false, 7)] (by kernel_rfl) (by kernel_rfl) ?_; simp only [opsOf, List.filterMap_cons, List.filterMap_nil, List.getElem?_toArray, List.getElem?_cons_zero, List.getElem?_cons_succ, Option.map_some]
  repeat (refine mixc_head ?_; (show wpQuiet _ _ _ _ (_ :: _) _; go_big_quiet_step (fail)); refine wpQuiet_nil ?_)
  refine mixc_tail ?_; go_wp2_with fail
  refine (HCI.out _ (HB5.out.trans (show Below w.heap.size w5 _ by (repeat' (first | (with_reducible exact Below.refl _ _) | (with_reducible assumption) | (with_reducible refine Below.drewN ?_ _) | (with_reducible refine Below.alloc ?_ ?_ _) | (with_reducible refine Below.drew ?_) | (with_reducible refine Below.setCell ?_ ?_ _) | (with_reducible refine Below.step (by assumption) ?_ ?_) | (with_reducible exact And.left (by assumption)) | go_size))))).mono ?_
  rintro e6 w6 ⟨a6, c6, rfl, hb6, ho6⟩
  have HX := Lib.hid ((Below.refl w5.heap.size w5).drew.trans hb6)
  have HI := Lib.hid (show w6.ownsRow w5.heap.size 3 1 (.slice a6 nf c6) nf (icells fs) from owns_mono ho6 (by simp))
  clear hb6 ho6
  go_wp2_with fail
  refine tailC_stay (SameX.of_below HX.out) ?_
  repeat (refine mixc_head ?_; (show wpQuiet _ _ _ _ (_ :: _) _; go_big_quiet_step (fail)); refine wpQuiet_nil ?_)
  refine mixc_tail ?_; go_wp2_with fail
  refine (HCG.out _ (HB5.out.trans (HX.out.mono HB5.out.size))).mono ?_
  rintro e7 w7 ⟨a7, c7, rfl, hb7, hp7⟩
  have HI := Lib.hid (owns_below HI.out hb7 (fun k hk => (HI.out.lt k hk).2))
  have HP := Lib.hid (show w7.ownsRow w5.heap.size 62 2 (.slice a7 nr c7) nr (pcells rs) from owns_mono hp7 HX.out.size)
  have HX := Lib.hid (HX.out.trans (hb7.mono HX.out.size))
  have hbx := HX.out
  have hzx := hbx.size
  have z0d : w7.cell? ⟨w.heap.size + 1, 0, none⟩ = some (.slice none 0 0) := by { rw [cellB hbx _ _ (by first | (simp; done) | (simp; omega) | omega)]; all_goals (first | assumption | go_simp) }; have z1d : w7.cell? ⟨w.heap.size + 1, 1, none⟩ = some (.slice none 0 0) := by { rw [cellB hbx _ _ (by first | (simp; done) | (simp; omega) | omega)]; all_goals (first | assumption | go_simp) }; have f0d : w7.frozen? ⟨w.heap.size + 1, 0, none⟩ = false := by { rw [frozenB hbx _ _ (by first | (simp; done) | (simp; omega) | omega)]; all_goals (first | assumption | go_simp) }; have f1d : w7.frozen? ⟨w.heap.size + 1, 1, none⟩ = false := by { rw [frozenB hbx _ _ (by first | (simp; done) | (simp; omega) | omega)]; all_goals (first | assumption | go_simp) }; have l1d : w.heap.size + 1 < w7.heap.size := by { omega }
  clear hb7 hp7 hbx hzx z0 z1 f0 f1
  go_wp2_with fail
  refine tailC_stay (SameX.of_below HX.out) ?_
  repeat (refine mixc_head ?_; (show wpQuiet _ _ _ _ (_ :: _) _; go_big_quiet_step (fail)); refine wpQuiet_nil ?_)
  refine mixc_tail ?_; go_wp2_with fail
  refine tailC_stay (.set (.set (SameX.of_below HX.out) _) _) ?_
  refine mixc_nil ?_
  go_wp2_with fail
  generalize hW : World.setCell _ _ _ = w12
  have r0 : w12.cell? ⟨w.heap.size + 1, 0, none⟩ = some (.slice a6 nf c6) := by { rw [← hW]; clear hW; go_simp }
  have r1 : w12.cell? ⟨w.heap.size + 1, 1, none⟩ = some (.slice a7 nr c7) := by { rw [← hW]; clear hW; go_simp }
  have hb12 : Below w.heap.size w w12 := by { rw [← hW]; have := HB5.out.trans (HX.out.mono HB5.out.size); (repeat' (first | (with_reducible exact Below.refl _ _) | (with_reducible assumption) | (with_reducible refine Below.drewN ?_ _) | (with_reducible refine Below.alloc ?_ ?_ _) | (with_reducible refine Below.drew ?_) | (with_reducible refine Below.setCell ?_ ?_ _) | (with_reducible refine Below.step (by assumption) ?_ ?_) | (with_reducible exact And.left (by assumption)) | go_size)) }
  have ho1 : w12.ownsRow w5.heap.size 3 1 (.slice a6 nf c6) nf (icells fs) := by { rw [← hW]; have := HI.out; (repeat' (first | (with_reducible assumption) | ((with_reducible refine owns_lit ?_ ?_ ?_ ?_) <;> first | (simp; done) | (simp; omega) | omega) | (with_reducible refine World.ownsRow.alloc ?_ _) | (with_reducible refine World.ownsRow.drew ?_) | (with_reducible refine owns_drewN ?_ _) | (with_reducible refine ownsRow_setCell_below ?_ ?_ _) | (simp; done) | (simp; omega) | omega)) }
  have ho2 : w12.ownsRow w5.heap.size 62 2 (.slice a7 nr c7) nr (pcells rs) := by { rw [← hW]; have := HP.out; (repeat' (first | (with_reducible assumption) | ((with_reducible refine owns_lit ?_ ?_ ?_ ?_) <;> first | (simp; done) | (simp; omega) | omega) | (with_reducible refine World.ownsRow.alloc ?_ _) | (with_reducible refine World.ownsRow.drew ?_) | (with_reducible refine owns_drewN ?_ _) | (with_reducible refine ownsRow_setCell_below ?_ ?_ _) | (simp; done) | (simp; omega) | omega)) }
  clear hW
  exact bodyPost_ret (v := .agg #[.slice a6 nf c6, .slice a7 nr c7]) (by simp [results, Tryz.results44, go_sem, r0, r1]) rfl ⟨a6, c6, a7, c7, rfl, hb12, SlR.of_owns ho1, SlR.of_owns ho2⟩
theorem askE_cases (s l : List T3) (fs : List Int) (rs : List (Int × Int)) : askE s l fs rs = if (netE s).2 ≠ 0 then (netE s).2 else if defsE s.length l ≠ 0 then defsE s.length l else if freE fs ≠ 0 then freE fs else if respsE rs ≠ 0 then respsE rs else if fs.length = rs.length then 0 else 10 := by
  unfold askE
  by_cases h1 : (netE s).2 = 0
  · by_cases h2 : defsE s.length l = 0
    · by_cases h3 : freE fs = 0
      · by_cases h4 : respsE rs = 0
        · by_cases h5 : fs.length = rs.length
          · rw [h1, h2, h3, h4, if_pos h5, h5]; simp [firstErr, unl]
          · rw [h1, h2, h3, h4, if_neg h5, show ((rs.length : Int) == (fs.length : Int)) = false by simp; omega]; simp [firstErr, unl]
        · rw [h1, h2, h3]; simp [firstErr, h4]
      · rw [h1, h2]; simp [firstErr, h3]
    · rw [h1]; simp [firstErr, h2]
  · simp [firstErr, h1]
set_option maxHeartbeats 1000000 in
set_option maxRecDepth 100000 in
theorem measuredErr_any (n c m cm nf cf nr cr : Nat) (a ap af ar : Option Addr) (s l : List T3) (fs : List Int) (rs : List (Int × Int)) (w : World) (hs : T3R w a n s) (hl : T3R w ap m l) (hf : IntsR w af nf fs) (hr : PairsR w ar nr rs) :
    Calls Tryz.prog 46 #[.agg #[.slice a n c], .slice ap m cm, .agg #[.slice af nf cf, .slice ar nr cr]] w fun e' w' => e' = .returned (.int .i64 (askE s l fs rs)) ∧ Below w.heap.size w w' := by
  have hn := hs.small
  have HNE := Lib.hid (fun (W : World) (hb : Below w.heap.size w W) => rNetworkErr_any s a n c W (hs.below hb))
  have HDE := Lib.hid (fun (W : World) (hb : Below w.heap.size w W) => rDeformationsErr_any n c m cm a ap l W hn (hl.below hb))
  have HFE := Lib.hid (fun (W : World) (hb : Below w.heap.size w W) => rFrequenciesErr_any fs af nf cf W (hf.below hb))
  have HRE := Lib.hid (fun (W : World) (hb : Below w.heap.size w W) => rResponsesErr_any rs ar nr cr W (hr.below hb))
  have hE := askE_cases s l fs rs
  rw [hs.len, hf.len, hr.len] at hE
  rw [hE]
  clear hs hl hf hr hn hE
  generalize (netE s).2 = e1 at *
  generalize defsE n l = e2 at *
  generalize freE fs = e3 at *
  generalize respsE rs = e4 at *
  go_enter Tryz.func46, Tryz.ntmps46
  go_wp2_with fail
  generalize hW : World.alloc _ _ = w5
  have hb5 : Below w.heap.size w w5 := by rw [← hW]; (repeat' (first | (with_reducible exact Below.refl _ _) | (with_reducible assumption) | (with_reducible refine Below.drewN ?_ _) | (with_reducible refine Below.alloc ?_ ?_ _) | (with_reducible refine Below.drew ?_) | (with_reducible refine Below.setCell ?_ ?_ _) | (with_reducible refine Below.step (by assumption) ?_ ?_) | (with_reducible exact And.left (by assumption)) | go_size))
  have q0 : w5.cell? ⟨w.heap.size, 0, none⟩ = some (.slice a n c) := by { rw [← hW]; clear hW; go_simp }
  have p0 : w5.cell? ⟨w.heap.size + 1, 0, none⟩ = some (.slice af nf cf) := by { rw [← hW]; clear hW; go_simp }
  have r0 : w5.cell? ⟨w.heap.size + 1, 1, none⟩ = some (.slice ar nr cr) := by { rw [← hW]; clear hW; go_simp }
  have l0 : w.heap.size + 1 < w5.heap.size := by { rw [← hW]; clear hW; simp }
  have HB := Lib.hid hb5
  clear hW hb5
  refine (HNE.out _ HB.out).mono ?_
  rintro x6 w6 ⟨rfl, hb6⟩
  have hzx := hb6.size
  have q1 : w6.cell? ⟨w.heap.size, 0, none⟩ = some (.slice a n c) := by { rw [cellB hb6 _ _ (by first | (simp; done) | (simp; omega) | omega)]; all_goals (first | assumption | go_simp) }; have p1 : w6.cell? ⟨w.heap.size + 1, 0, none⟩ = some (.slice af nf cf) := by { rw [cellB hb6 _ _ (by first | (simp; done) | (simp; omega) | omega)]; all_goals (first | assumption | go_simp) }; have r1 : w6.cell? ⟨w.heap.size + 1, 1, none⟩ = some (.slice ar nr cr) := by { rw [cellB hb6 _ _ (by first | (simp; done) | (simp; omega) | omega)]; all_goals (first | assumption | go_simp) }; have l1 : w.heap.size + 1 < w6.heap.size := by { omega }
  have HB := Lib.hid (HB.out.trans (hb6.mono HB.out.size))
  clear q0 p0 r0 l0 hzx hb6
  by_cases h1 : e1 = 0
  · subst h1
    go_wp2_with fail
    refine (HDE.out _ HB.out).mono ?_
    rintro x7 w7 ⟨rfl, hb7⟩
    have hzx := hb7.size
    have q0 : w7.cell? ⟨w.heap.size, 0, none⟩ = some (.slice a n c) := by { rw [cellB hb7 _ _ (by first | (simp; done) | (simp; omega) | omega)]; all_goals (first | assumption | go_simp) }; have p0 : w7.cell? ⟨w.heap.size + 1, 0, none⟩ = some (.slice af nf cf) := by { rw [cellB hb7 _ _ (by first | (simp; done) | (simp; omega) | omega)]; all_goals (first | assumption | go_simp) }; have r0 : w7.cell? ⟨w.heap.size + 1, 1, none⟩ = some (.slice ar nr cr) := by { rw [cellB hb7 _ _ (by first | (simp; done) | (simp; omega) | omega)]; all_goals (first | assumption | go_simp) }; have l0 : w.heap.size + 1 < w7.heap.size := by { omega }
    have HB := Lib.hid (HB.out.trans (hb7.mono HB.out.size))
    clear q1 p1 r1 l1 hzx hb7
    by_cases h2 : e2 = 0
    · subst h2
      go_wp2_with fail
      refine (HFE.out _ HB.out).mono ?_
      rintro x8 w8 ⟨rfl, hb8⟩
      have hzx := hb8.size
      have q1 : w8.cell? ⟨w.heap.size, 0, none⟩ = some (.slice a n c) := by { rw [cellB hb8 _ _ (by first | (simp; done) | (simp; omega) | omega)]; all_goals (first | assumption | go_simp) }; have p1 : w8.cell? ⟨w.heap.size + 1, 0, none⟩ = some (.slice af nf cf) := by { rw [cellB hb8 _ _ (by first | (simp; done) | (simp; omega) | omega)]; all_goals (first | assumption | go_simp) }; have r1 : w8.cell? ⟨w.heap.size + 1, 1, none⟩ = some (.slice ar nr cr) := by { rw [cellB hb8 _ _ (by first | (simp; done) | (simp; omega) | omega)]; all_goals (first | assumption | go_simp) }; have l1 : w.heap.size + 1 < w8.heap.size := by { omega }
      have HB := Lib.hid (HB.out.trans (hb8.mono HB.out.size))
      clear q0 p0 r0 l0 hzx hb8
      by_cases h3 : e3 = 0
      · subst h3
        go_wp2_with fail
        refine (HRE.out _ HB.out).mono ?_
        rintro x9 w9 ⟨rfl, hb9⟩
        have hzx := hb9.size
        have q0 : w9.cell? ⟨w.heap.size, 0, none⟩ = some (.slice a n c) := by { rw [cellB hb9 _ _ (by first | (simp; done) | (simp; omega) | omega)]; all_goals (first | assumption | go_simp) }; have p0 : w9.cell? ⟨w.heap.size + 1, 0, none⟩ = some (.slice af nf cf) := by { rw [cellB hb9 _ _ (by first | (simp; done) | (simp; omega) | omega)]; all_goals (first | assumption | go_simp) }; have r0 : w9.cell? ⟨w.heap.size + 1, 1, none⟩ = some (.slice ar nr cr) := by { rw [cellB hb9 _ _ (by first | (simp; done) | (simp; omega) | omega)]; all_goals (first | assumption | go_simp) }; have l0 : w.heap.size + 1 < w9.heap.size := by { omega }
        have HB := Lib.hid (HB.out.trans (hb9.mono HB.out.size))
        clear q1 p1 r1 l1 hzx hb9
        by_cases h4 : e4 = 0
        · subst h4
          by_cases h5 : nf = nr
          · subst h5
            go_wp2
            go_ret
            exact ⟨ret_int (by simp), HB.out⟩
          · have h6 : ((nf : Int) == (nr : Int)) = false := by simp; omega
            have h7 : ((nf : Int) != (nr : Int)) = true := by simp; omega
            go_wp2
            go_ret
            exact ⟨ret_int rfl, HB.out⟩
        · have h6 : (e4 != 0) = true := by simpa using h4
          go_wp2
          go_ret
          exact ⟨ret_int rfl, HB.out⟩
      · have h6 : (e3 != 0) = true := by simpa using h3
        go_wp2
        go_ret
        exact ⟨ret_int rfl, HB.out⟩
    · have h6 : (e2 != 0) = true := by simpa using h2
      go_wp2
      go_ret
      exact ⟨ret_int rfl, HB.out⟩
  · have h6 : (e1 != 0) = true := by simpa using h1
    go_wp2
    go_ret
    exact ⟨ret_int rfl, HB.out⟩
theorem freE_ok9 {l : List Int} (h2 : freE l = 0) : l.length ≤ 8 ∧ ∀ f ∈ l, 0 ≤ f ∧ f ≤ 6 := by
  unfold freE at h2
  obtain ⟨g1, g2⟩ := firstErr_cons.1 h2
  obtain ⟨g3, _⟩ := firstErr_cons.1 g2
  rw [unl_eq_zero (by omega)] at g1 g3
  rw [decide_eq_true_eq] at g1
  rw [Bool.not_eq_true', List.any_eq_false] at g3
  exact ⟨by omega, fun f hf => by have := g3 f hf; simpa [wi_iff] using this⟩
set_option maxHeartbeats 2000000 in
set_option maxRecDepth 100000 in
theorem rExplains_any (n c m cm nf cf nr cr q cq : Nat) (a ap af ar aq : Option Addr) (s l : List T3) (fs : List Int) (rs : List (Int × Int)) (S : List Nat) (w : World) (hs : T3R w a n s) (hl : T3R w ap m l) (hf : IntsR w af nf fs) (hr : PairsR w ar nr rs) (hS : IntsR w aq q (nats S)) (h0 : askE s l fs rs = 0) (hq : q ≤ 1000) (hlt : ∀ i ∈ S, i < m) :
    Calls Tryz.prog 50 #[.agg #[.slice a n c], .slice ap m cm, .agg #[.slice af nf cf, .slice ar nr cr], .slice aq q cq] w fun e' w' => e' = .returned (.bool (expB s l fs rs (nats S))) ∧ Below w.heap.size w w' := by
  have h1 := h0
  rw [askE_cases] at h1
  have g1 : (netE s).2 = 0 := by by_cases h : (netE s).2 = 0; exact h; simp [h] at h1
  have g2 : defsE s.length l = 0 := by by_cases h : defsE s.length l = 0; exact h; simp [g1, h] at h1
  have g3 : freE fs = 0 := by by_cases h : freE fs = 0; exact h; simp [g1, g2, h] at h1
  have k1 := netE_pos g1
  have k2 := defsE_zero g2
  rw [hs.len] at k2
  have k3 := freE_ok9 g3
  have hlf := hf.len
  have HD := Lib.hid (fun (W : World) (hb : Below w.heap.size w W) => rDeformed_any n c m cm q cq a ap aq s l S W (hs.below hb) (by have := hs.len; omega) (by have := hs.len; omega) k1.2.2 (hl.below hb) (hS.below hb) hq hlt k2.2)
  have hV : expB s l fs rs (nats S) = (decide ((netE (dfm s (pick l (nats S)))).2 = 0) && decide (fs.map (gPr (dfm s (pick l (nats S)))) = rs)) := rfl
  rw [hV]
  have hDN : (dfm s (pick l (nats S))).length = n := by rw [dfm_len]; exact hs.len
  have HDN := Lib.hid hDN
  generalize dfm s (pick l (nats S)) = D at *
  have HF := Lib.hid hf
  have HR := Lib.hid hr
  have HNE := Lib.hid (fun (a' : Option Addr) (c' : Nat) (W : World) (h : T3R W a' n D) => rNetworkErr_any D a' n c' W h)
  have HRS := Lib.hid (fun (h : (netE D).2 = 0) (a' : Option Addr) (c' : Nat) (W : World) (h1 : T3R W a' n D) (h2 : Below w.heap.size w W) => rResponses_any D fs a' af n c' nf cf W h1 (hf.below h2) (by have := (netE_pos h).2.1; omega) (netE_pos h).2.2 k3.2 (by omega))
  clear hs hl hf hr hS h0 h1 g1 g2 g3 k1 k2 k3 hV hDN hlf hq hlt
  generalize (netE D).2 = DE at *
  generalize fs.map (gPr D) = L at *
  go_enter Tryz.func50, Tryz.ntmps50
  go_wp2_with fail
  refine (HD.out _ (by (repeat' (first | (with_reducible exact Below.refl _ _) | (with_reducible assumption) | (with_reducible refine Below.drewN ?_ _) | (with_reducible refine Below.alloc ?_ ?_ _) | (with_reducible refine Below.drew ?_) | (with_reducible refine Below.setCell ?_ ?_ _) | (with_reducible refine Below.step (by assumption) ?_ ?_) | (with_reducible exact And.left (by assumption)) | go_size)))).mono ?_
  rintro x5 w5 ⟨a5, c5, rfl, hb5, ho5⟩
  have p0 : w5.cell? ⟨w.heap.size + 1, 0, none⟩ = some (.slice af nf cf) := by { rw [cellB hb5 _ _ (by first | (simp; done) | (simp; omega) | omega)]; all_goals (first | assumption | go_simp) }; have r0 : w5.cell? ⟨w.heap.size + 1, 1, none⟩ = some (.slice ar nr cr) := by { rw [cellB hb5 _ _ (by first | (simp; done) | (simp; omega) | omega)]; all_goals (first | assumption | go_simp) }
  have HB := Lib.hid (show Below w.heap.size w w5 from Below.trans (by (repeat' (first | (with_reducible exact Below.refl _ _) | (with_reducible assumption) | (with_reducible refine Below.drewN ?_ _) | (with_reducible refine Below.alloc ?_ ?_ _) | (with_reducible refine Below.drew ?_) | (with_reducible refine Below.setCell ?_ ?_ _) | (with_reducible refine Below.step (by assumption) ?_ ?_) | (with_reducible exact And.left (by assumption)) | go_size))) (hb5.mono (by simp; omega)))
  have z5 : w.heap.size + 1 < w5.heap.size := by have := hb5.size; simp at this; omega
  have ht5 : T3R w5 a5 n D := ER.of_owns HDN.out ho5
  clear hb5 ho5
  go_wp2_with fail
  generalize hW : World.alloc _ _ = w6
  have hb6 : Below w5.heap.size w5 w6 := by rw [← hW]; (repeat' (first | (with_reducible exact Below.refl _ _) | (with_reducible assumption) | (with_reducible refine Below.drewN ?_ _) | (with_reducible refine Below.alloc ?_ ?_ _) | (with_reducible refine Below.drew ?_) | (with_reducible refine Below.setCell ?_ ?_ _) | (with_reducible refine Below.step (by assumption) ?_ ?_) | (with_reducible exact And.left (by assumption)) | go_size))
  have y0 : w6.cell? ⟨w5.heap.size, 0, none⟩ = some (.slice a5 n c5) := by { rw [← hW]; clear hW; go_simp }
  have ly : w5.heap.size < w6.heap.size := by { rw [← hW]; clear hW; simp }
  have p1 : w6.cell? ⟨w.heap.size + 1, 0, none⟩ = some (.slice af nf cf) := by { rw [cellB hb6 _ _ (by first | (simp; done) | (simp; omega) | omega)]; all_goals (first | assumption | go_simp) }; have r1 : w6.cell? ⟨w.heap.size + 1, 1, none⟩ = some (.slice ar nr cr) := by { rw [cellB hb6 _ _ (by first | (simp; done) | (simp; omega) | omega)]; all_goals (first | assumption | go_simp) }
  have lp : w.heap.size + 1 < w6.heap.size := by omega
  have HB := Lib.hid (HB.out.trans (hb6.mono HB.out.size))
  have HT := Lib.hid (ht5.below hb6)
  obtain ⟨X, hX⟩ : ∃ X, X = w5.heap.size := ⟨_, rfl⟩
  rw [← hX] at y0 ly ⊢
  clear hW hb6 hX p0 r0 z5 ht5
  by_cases hD : DE = 0
  · have HRSa := Lib.hid (HRS.out hD)
    clear HRS
    subst hD
    refine wp_region_laterM (B := w6.heap.size) [(true, 0), (false, 1), (true, 2), (true, 3), (true, 4), (true, 5), (true, 6), (true, 8), (true, 9), (false, 7), (false, 10), (true, 11), (true, 12)] (by kernel_rfl) (by kernel_rfl) ?_; simp only [opsOf, List.filterMap_cons, List.filterMap_nil, List.getElem?_toArray, List.getElem?_cons_zero, List.getElem?_cons_succ, Option.map_some]
    repeat (refine mix_head ?_; (show wpQuiet _ _ _ _ (_ :: _) _; go_big_quiet_step (fail)); refine wpQuiet_nil ?_)
    refine mix_tail ?_; go_wp2_with fail
    refine (HNE.out a5 c5 _ (HT.out.below (Below.refl w6.heap.size w6).drew)).mono ?_
    rintro x7 w7 ⟨rfl, hb7⟩
    have HX := Lib.hid ((Below.refl w6.heap.size w6).drew.trans hb7)
    clear hb7
    go_wp2_with fail
    refine tailL_mk HX.out ?_
    repeat (refine mix_head ?_; (show wpQuiet _ _ _ _ (_ :: _) _; go_big_quiet_step (fail)); refine wpQuiet_nil ?_)
    refine mix_tail ?_; go_wp2_with fail
    refine (HRSa.out a5 c5 _ (HT.out.below HX.out) (HB.out.trans (HX.out.mono HB.out.size))).mono ?_
    rintro x8 w8 ⟨a8, c8, rfl, hb8, hp8⟩
    have HX := Lib.hid (HX.out.trans (hb8.mono HX.out.size))
    clear hb8
    go_wp2_with fail
    refine tailL_mk HX.out ?_
    repeat (refine mix_head ?_; (show wpQuiet _ _ _ _ (_ :: _) _; go_big_quiet_step (fail)); refine wpQuiet_nil ?_)
    refine mix_tail ?_; go_wp2_with fail
    refine (gausses_any _ _ _ _ _ _ _ _ _ hp8 (HR.out.below (HB.out.trans (HX.out.mono HB.out.size)))).mono ?_
    rintro x9 w9 ⟨rfl, nd, hw⟩
    have HX := Lib.hid (show Below w6.heap.size w6 w9 by rw [hw]; exact HX.out.drewN _)
    clear hp8 hw
    go_wp2_with fail
    refine tailL_mk HX.out ?_
    repeat (refine mix_head ?_; (show wpQuiet _ _ _ _ (_ :: _) _; go_big_quiet_step (fail)); refine wpQuiet_nil ?_)
    refine mix_nil ?_
    go_wp2
    go_ret
    exact ⟨ret_bool (by simp), HB.out.trans (HX.out.mono HB.out.size)⟩
  · have e1 : (DE == 0) = false := by simpa using hD
    have HE2 := Lib.hid (show decide (DE = 0) = false from decide_eq_false hD)
    clear hD
    refine wp_region_laterM (B := w6.heap.size) [(true, 0), (false, 1), (true, 2), (true, 3), (true, 4), (true, 5), (true, 6), (true, 8), (true, 9), (false, 7), (false, 10), (true, 11), (true, 12)] (by kernel_rfl) (by kernel_rfl) ?_; simp only [opsOf, List.filterMap_cons, List.filterMap_nil, List.getElem?_toArray, List.getElem?_cons_zero, List.getElem?_cons_succ, Option.map_some]
    repeat (refine mix_head ?_; (show wpQuiet _ _ _ _ (_ :: _) _; go_big_quiet_step (fail)); refine wpQuiet_nil ?_)
    refine mix_tail ?_; go_wp2_with fail
    refine (HNE.out a5 c5 _ (HT.out.below (Below.refl w6.heap.size w6).drew)).mono ?_
    rintro x7 w7 ⟨rfl, hb7⟩
    have HX := Lib.hid ((Below.refl w6.heap.size w6).drew.trans hb7)
    clear hb7
    go_wp2_with fail
    refine tailL_mk HX.out ?_
    repeat (refine mix_head ?_; (show wpQuiet _ _ _ _ (_ :: _) _; go_big_quiet_step (fail)); refine wpQuiet_nil ?_)
    refine mix_tail ?_; go_wp2_with fail
    refine tailL_mk HX.out ?_
    refine mix_tail ?_; go_wp2_with fail
    refine tailL_mk HX.out ?_
    repeat (refine mix_head ?_; (show wpQuiet _ _ _ _ (_ :: _) _; go_big_quiet_step (fail)); refine wpQuiet_nil ?_)
    refine mix_nil ?_
    go_wp2
    go_ret
    exact ⟨ret_bool (by rw [HE2.out]; rfl), HB.out.trans (HX.out.mono HB.out.size)⟩
end Go.Proofs.YtkphbibonagkfaaGreat

/- The responses of a network with some changes have explanations: in plain words. -/
namespace Go.Proofs.YtkphbibonagkfaaGreat
open Go.RowKit
set_option linter.unusedVariables false

theorem gB_gPr {D : List T3} {f : Int} (hn : (netE D).2 = 0) (hf : 0 ≤ f ∧ f ≤ 6) : gB (gPr D f) = true := by
  obtain ⟨_, h3, hs⟩ := netE_pos hn
  have h := row_bd hf (l := D.map sOf) (fun s hs' => by
    obtain ⟨p, hp, rfl⟩ := List.mem_map.1 hs'
    exact sec_ok (hs p hp)) (by simpa using h3)
  have h1 : nG (respG f (D.map sOf)) ≤ 84027672 := by unfold respG; omega
  have h2 := nG_bd h1
  unfold gB gPr
  rw [Bool.and_eq_true, wi_iff, wi_iff]
  simp only
  omega
theorem respsE_gPr {D : List T3} {fs : List Int} (hn : (netE D).2 = 0) (hf : freE fs = 0) : respsE (fs.map (gPr D)) = 0 := by
  obtain ⟨h1, h2⟩ := freE_ok9 hf
  unfold respsE
  rw [List.length_map]
  have h3 : ((fs.map (gPr D)).any (fun p => !gB p)) = false := by
    rw [List.any_eq_false]
    intro p hp
    obtain ⟨f, hf', rfl⟩ := List.mem_map.1 hp
    rw [gB_gPr hn (h2 f hf')]; simp
  rw [h3, decide_eq_true (show ((fs.length : Nat) : Int) ≤ 8 by omega)]
  rfl
/-- A set without errors is a list of indexes of 'ext'. -/
theorem setE_nats {m : Nat} {S : List Int} (h : setE m S = 0) : ∃ T, nats T = S ∧ T ∈ ext m S.length 0 := by
  have h1 := setE_mem h
  obtain ⟨_, h2⟩ := setE_zero h
  refine ⟨S.map Int.toNat, ?_, ?_⟩
  · unfold nats
    rw [List.map_map]
    refine (List.map_congr_left (g := id) fun i hi => ?_).trans (List.map_id S)
    have := h1 i hi
    simp only [Function.comp, id]
    omega
  · rw [ext_mem]
    refine ⟨by simp, ?_, fun x hx => ?_⟩
    · rw [List.pairwise_map]
      have h3 : S.Pairwise (· < ·) := by
        rw [List.pairwise_iff_getElem]
        intro i j hi hj hij
        have h4 : ∀ d, i + d + 1 < S.length → S.getD i 0 < S.getD (i + d + 1) 0 := by
          intro d
          induction d with
          | zero => intro hd; exact h2 i hd
          | succ d ih => intro hd; have := ih (by omega); have := h2 (i + d + 1) (by omega); simp only [Nat.add_assoc] at *; omega
        have := h4 (j - i - 1) (by omega)
        rw [show i + (j - i - 1) + 1 = j by omega, List.getD_eq_getElem?_getD, List.getD_eq_getElem?_getD, List.getElem?_eq_getElem hi, List.getElem?_eq_getElem hj] at this
        exact this
      refine List.Pairwise.imp_of_mem ?_ h3
      intro a b ha hb hab
      have := h1 a ha
      have := h1 b hb
      omega
    · obtain ⟨i, hi, rfl⟩ := List.mem_map.1 hx
      have := h1 i hi
      omega
theorem ext_setE {m k : Nat} {T : List Nat} (h : T ∈ ext m k 0) : setE m (nats T) = 0 := by
  rw [ext_mem] at h
  obtain ⟨_, h2, h3⟩ := h
  have hl : (nats T).length = T.length := by simp [nats]
  have hg : ∀ i, i < T.length → (nats T).getD i 0 = ((T.getD i 0 : Nat) : Int) := fun i hi => by
    unfold nats
    rw [List.getD_eq_getElem?_getD, List.getElem?_map, List.getElem?_eq_getElem hi, List.getD_eq_getElem?_getD, List.getElem?_eq_getElem hi]
    rfl
  have hm : ∀ i, i < T.length → T.getD i 0 < m := fun i hi => by
    rw [List.getD_eq_getElem?_getD, List.getElem?_eq_getElem hi]
    exact (h3 _ (List.getElem_mem hi)).2
  unfold setE
  rw [firstAt_all]
  intro j _ hj
  rw [hl] at hj
  unfold clE
  rw [hg j (by omega), show wi ((T.getD j 0 : Nat) : Int) 0 ((m : Int) - 1) = true by rw [wi_iff]; have := hm j (by omega); omega]
  have h4 : (decide (j = 0) || decide ((nats T).getD (j - 1) 0 < ((T.getD j 0 : Nat) : Int))) = true := by
    by_cases h0 : j = 0
    · simp [h0]
    · rw [hg (j - 1) (by omega)]
      rw [List.pairwise_iff_getElem] at h2
      have := h2 (j - 1) j (by omega) (by omega) (by omega)
      rw [List.getD_eq_getElem?_getD, List.getElem?_eq_getElem (show j - 1 < T.length by omega), List.getD_eq_getElem?_getD, List.getElem?_eq_getElem (show j < T.length by omega)]
      simp only [Option.getD_some]
      rw [Bool.or_eq_true]
      right
      rw [decide_eq_true_eq]
      omega
  rw [h4]
  rfl
theorem xpS_found {p : List Nat → Bool} {m : Nat} : ∀ (t k q : Nat) (T : List Nat), T ∈ ext m q 0 → p T = true → k ≤ q → q < k + t →
    ∃ j, k ≤ j ∧ j ≤ q ∧ xpS p m t k = ((ext m j 0).filter p, 0) ∧ (ext m j 0).filter p ≠ []
  | 0, k, q, T, _, _, h1, h2 => by omega
  | t + 1, k, q, T, hT, hp, h1, h2 => by
    unfold xpS
    by_cases h : (ext m k 0).filter p ≠ []
    · rw [if_pos h]; exact ⟨k, Nat.le_refl _, h1, rfl, h⟩
    · rw [if_neg h]
      have hkq : k ≠ q := by
        rintro rfl
        refine h ?_
        intro he
        have : T ∈ (ext m k 0).filter p := List.mem_filter.2 ⟨hT, hp⟩
        rw [he] at this
        simp at this
      obtain ⟨j, h3, h4, h5, h6⟩ := xpS_found t (k + 1) q T hT hp (by omega) (by omega)
      exact ⟨j, by omega, h4, h5, h6⟩
theorem defsE_pick {n m : Nat} {l : List T3} {S : List Int} (h : defsE n l = 0) (hm : l.length = m) (hS : setE m S = 0) : defsE n (pick l S) = 0 := by
  have h1 := (defsE_zero h).1
  have h2 := setE_few hS
  have h3 := setE_zero hS
  unfold defsE at h ⊢
  rw [if_neg (by omega)] at h
  rw [pick_len, if_neg (by omega), firstAt_all]
  intro j _ hj
  rw [pick_at (by omega)]
  have := h3.1 j (by omega)
  exact (firstAt_none _ _ h).2 (S.getD j 0).toNat (by omega) (by omega)
end Go.Proofs.YtkphbibonagkfaaGreat
