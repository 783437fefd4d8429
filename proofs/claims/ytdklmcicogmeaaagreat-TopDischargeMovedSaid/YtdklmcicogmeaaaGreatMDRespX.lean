import Derived.Test.YtdklmcicogmeaaaGreatDDef2
import Derived.Test.YtdklmcicogmeaaaGreatDXpe
import Derived.Test.YtdklmcicogmeaaaGreatMPlainInit
import Derived.Test.YtdklmcicogmeaaaGreatRMeas
/- Responses with the errors: the program's functions; the frequency 0; a section of zeros. -/
namespace Go.Proofs.YtdklmcicogmeaaaGreat
open Go.RowKit
set_option linter.unusedVariables false

def rspE (s : List T3) (f : Int) : Int := firstErr [(netE s).2, unl (wi f 0 6) 2]
def rsoE (s : List T3) (fs : List Int) : Int := firstErr [(netE s).2, freE fs]
theorem col_zero (w : Int) (p : GI × GI) : colStep w ⟨0, 0, 0⟩ p = p := by
  obtain ⟨⟨a, b⟩, ⟨c, d⟩⟩ := p
  unfold colStep Sec.z Sec.y GI.add GI.mul
  simp
theorem gPr_longer (s : List T3) (f : Int) : gPr (s ++ [⟨0, 0, 0⟩]) f = gPr s f := by
  unfold gPr
  rw [resp_col, resp_col, List.map_append, List.foldr_append]
  rw [show ([⟨0, 0, 0⟩] : List T3).map sOf = [⟨0, 0, 0⟩] from rfl, List.foldr_cons, List.foldr_nil, col_zero]
theorem col_at_zero : ∀ (l : List Sec), l.foldr (colStep 0) (⟨1, 0⟩, ⟨0, 0⟩) = (⟨1, 0⟩, ⟨0, 0⟩)
  | [] => rfl
  | s :: r => by
    rw [List.foldr_cons, col_at_zero r]
    unfold colStep Sec.z Sec.y GI.add GI.mul
    simp
theorem gPr_zero (s : List T3) : gPr s 0 = (1, 0) := by
  unfold gPr
  rw [resp_col, col_at_zero]
set_option maxHeartbeats 1000000 in
set_option maxRecDepth 100000 in
theorem responsesOf_any (s : List T3) (fs : List Int) (a af : Option Addr) (n c m cm : Nat) (w : World) (hs : T3R w a n s) (hf : IntsR w af m fs) :
    Calls Tryz.prog 37 #[.agg #[.slice a n c], .slice af m cm] w fun e' w' => ∃ a' k' c', e' = .returned (.tuple #[.slice a' k' c', .int .i64 (rsoE s fs)]) ∧ Below w.heap.size w w' ∧ PairsR w' a' k' (if rsoE s fs = 0 then fs.map (gPr s) else []) := by
  have HN := Lib.hid (fun (W : World) (hb : Below w.heap.size w W) => networkErr_any s a n c W (hs.below hb))
  have HFE := Lib.hid (fun (W : World) (hb : Below w.heap.size w W) => frequenciesErr_any fs af m cm W (hf.below hb))
  have HR := Lib.hid (fun (h : rsoE s fs = 0) (W : World) (hb : Below w.heap.size w W) => show Calls Tryz.prog 98 #[.agg #[.slice a n c], .slice af m cm] W fun e' w' => ∃ a' c', e' = .returned (.slice a' m c') ∧ Below W.heap.size W w' ∧ PairsR w' a' m (fs.map (gPr s)) by
    obtain ⟨h1, h2⟩ := firstErr_cons.1 h
    obtain ⟨h2, _⟩ := firstErr_cons.1 h2
    have k1 := netE_ok h1
    have k2 : fs.length ≤ 8 ∧ ∀ f ∈ fs, 0 ≤ f ∧ f ≤ 6 := by
      unfold freE at h2
      obtain ⟨g1, g2⟩ := firstErr_cons.1 h2
      obtain ⟨g3, _⟩ := firstErr_cons.1 g2
      rw [unl_eq_zero (by omega)] at g1 g3
      rw [decide_eq_true_eq] at g1
      rw [Bool.not_eq_true', List.any_eq_false] at g3
      exact ⟨by omega, fun f hf => by have := g3 f hf; simpa [wi_iff] using this⟩
    refine (responses_any s fs a af n c m cm W (hs.below hb) (hf.below hb) (by have := hs.len; omega) k1.2.2 k2.2 (by have := hf.len; omega)).mono ?_
    rintro e W' ⟨a', c', h1, _, h2, h3, _⟩
    exact ⟨a', c', h1, h2, h3⟩)
  have HE := Lib.hid (show rsoE s fs = firstErr [(netE s).2, freE fs] from rfl)
  clear hs hf
  generalize rsoE s fs = E at *
  generalize fs.map (gPr s) = P at *
  generalize (netE s).2 = e1 at *
  generalize freE fs = e2 at *
  by_cases h0 : E = 0
  · rw [if_pos h0]
    have HRR := Lib.hid (HR.out h0)
    subst h0
    clear HR
    go_enter Tryz.func37, Tryz.ntmps37
    go_wp2_with fail
    generalize hW : World.alloc _ _ = w5
    have hb5 : Below w.heap.size w w5 := by rw [← hW]; (repeat' (first | (with_reducible exact Below.refl _ _) | (with_reducible assumption) | (with_reducible refine Below.drewN ?_ _) | (with_reducible refine Below.alloc ?_ ?_ _) | (with_reducible refine Below.drew ?_) | (with_reducible refine Below.setCell ?_ ?_ _) | (with_reducible refine Below.step (by assumption) ?_ ?_) | (with_reducible exact And.left (by assumption)) | go_size))
    have q0 : w5.cell? ⟨w.heap.size, 0, none⟩ = some (.slice a n c) := by { rw [← hW]; clear hW; go_simp }
    have l1 : w.heap.size < w5.heap.size := by { rw [← hW]; clear hW; simp }
    have HB := Lib.hid hb5
    clear hW hb5
    refine (HN.out _ HB.out).mono ?_
    rintro e6 w6 ⟨rfl, hb6⟩
    have HB := Lib.hid (HB.out.trans (hb6.mono HB.out.size))
    go_wp2_with fail
    refine (HFE.out _ HB.out).mono ?_
    rintro e7 w7 ⟨rfl, hb7⟩
    have h57 : Below w5.heap.size w5 w7 := hb6.trans (hb7.mono hb6.size)
    have HB := Lib.hid (HB.out.trans (hb7.mono HB.out.size))
    go_wp2_with fail
    refine (d_first2 _ _ _ _ _ _ (by rfl) (by simp)).mono ?_
    rintro e9 w9 ⟨rfl, hw9⟩
    have hb9 : Below w5.heap.size w5 w9 := h57.trans ((show Below w7.heap.size w7 w9 by rw [← hw9]; (repeat' (first | (with_reducible exact Below.refl _ _) | (with_reducible assumption) | (with_reducible refine Below.drewN ?_ _) | (with_reducible refine Below.alloc ?_ ?_ _) | (with_reducible refine Below.drew ?_) | (with_reducible refine Below.setCell ?_ ?_ _) | (with_reducible refine Below.step (by assumption) ?_ ?_) | (with_reducible exact And.left (by assumption)) | go_size))).mono h57.size)
    rw [← HE.out]
    have hz9 := hb9.size
    have q0d : w9.cell? ⟨w.heap.size, 0, none⟩ = some (.slice a n c) := by { rw [cellB hb9 _ _ (by first | (simp; done) | (simp; omega) | omega)]; all_goals (first | assumption | go_simp) }
    have l0d : w.heap.size < w9.heap.size := by omega
    have HB := Lib.hid (show Below w.heap.size w w9 from HB.out.trans ((show Below w7.heap.size w7 w9 by rw [← hw9]; (repeat' (first | (with_reducible exact Below.refl _ _) | (with_reducible assumption) | (with_reducible refine Below.drewN ?_ _) | (with_reducible refine Below.alloc ?_ ?_ _) | (with_reducible refine Below.drew ?_) | (with_reducible refine Below.setCell ?_ ?_ _) | (with_reducible refine Below.step (by assumption) ?_ ?_) | (with_reducible exact And.left (by assumption)) | go_size))).mono HB.out.size))
    clear hb6 hb7 h57 hw9 hb9 hz9 q0 l1
    go_wp2_with fail
    refine (HRR.out _ HB.out).mono ?_
    rintro e10 wa ⟨a', c', rfl, hba, hpa⟩
    have HB := Lib.hid (HB.out.trans (hba.mono HB.out.size))
    have HP := Lib.hid hpa
    clear hba hpa
    go_wp2
    go_ret2
    exact ⟨a', m, c', rfl, HB.out, HP.out⟩
  · rw [if_neg h0]
    have hE1 : (E != 0) = true := by simpa using h0
    clear HR h0
    go_enter Tryz.func37, Tryz.ntmps37
    go_wp2_with fail
    generalize hW : World.alloc _ _ = w5
    have hb5 : Below w.heap.size w w5 := by rw [← hW]; (repeat' (first | (with_reducible exact Below.refl _ _) | (with_reducible assumption) | (with_reducible refine Below.drewN ?_ _) | (with_reducible refine Below.alloc ?_ ?_ _) | (with_reducible refine Below.drew ?_) | (with_reducible refine Below.setCell ?_ ?_ _) | (with_reducible refine Below.step (by assumption) ?_ ?_) | (with_reducible exact And.left (by assumption)) | go_size))
    have q0 : w5.cell? ⟨w.heap.size, 0, none⟩ = some (.slice a n c) := by { rw [← hW]; clear hW; go_simp }
    have l1 : w.heap.size < w5.heap.size := by { rw [← hW]; clear hW; simp }
    have HB := Lib.hid hb5
    clear hW hb5
    refine (HN.out _ HB.out).mono ?_
    rintro e6 w6 ⟨rfl, hb6⟩
    have HB := Lib.hid (HB.out.trans (hb6.mono HB.out.size))
    go_wp2_with fail
    refine (HFE.out _ HB.out).mono ?_
    rintro e7 w7 ⟨rfl, hb7⟩
    have h57 : Below w5.heap.size w5 w7 := hb6.trans (hb7.mono hb6.size)
    have HB := Lib.hid (HB.out.trans (hb7.mono HB.out.size))
    go_wp2_with fail
    refine (d_first2 _ _ _ _ _ _ (by rfl) (by simp)).mono ?_
    rintro e9 w9 ⟨rfl, hw9⟩
    have hb9 : Below w5.heap.size w5 w9 := h57.trans ((show Below w7.heap.size w7 w9 by rw [← hw9]; (repeat' (first | (with_reducible exact Below.refl _ _) | (with_reducible assumption) | (with_reducible refine Below.drewN ?_ _) | (with_reducible refine Below.alloc ?_ ?_ _) | (with_reducible refine Below.drew ?_) | (with_reducible refine Below.setCell ?_ ?_ _) | (with_reducible refine Below.step (by assumption) ?_ ?_) | (with_reducible exact And.left (by assumption)) | go_size))).mono h57.size)
    rw [← HE.out]
    have hz9 := hb9.size
    have q0d : w9.cell? ⟨w.heap.size, 0, none⟩ = some (.slice a n c) := by { rw [cellB hb9 _ _ (by first | (simp; done) | (simp; omega) | omega)]; all_goals (first | assumption | go_simp) }
    have l0d : w.heap.size < w9.heap.size := by omega
    have HB := Lib.hid (show Below w.heap.size w w9 from HB.out.trans ((show Below w7.heap.size w7 w9 by rw [← hw9]; (repeat' (first | (with_reducible exact Below.refl _ _) | (with_reducible assumption) | (with_reducible refine Below.drewN ?_ _) | (with_reducible refine Below.alloc ?_ ?_ _) | (with_reducible refine Below.drew ?_) | (with_reducible refine Below.setCell ?_ ?_ _) | (with_reducible refine Below.step (by assumption) ?_ ?_) | (with_reducible exact And.left (by assumption)) | go_size))).mono HB.out.size))
    clear hb6 hb7 h57 hw9 hb9 hz9 q0 l1
    go_wp2
    go_ret2
    exact ⟨none, 0, 0, rfl, HB.out, PairsR.nil _ _⟩
end Go.Proofs.YtdklmcicogmeaaaGreat

/- The responses of a network with some changes have explanations: in plain words. -/
namespace Go.Proofs.YtdklmcicogmeaaaGreat
open Go.RowKit
set_option linter.unusedVariables false

theorem gB_gPr {D : List T3} {f : Int} (hn : (netE D).2 = 0) (hf : 0 ≤ f ∧ f ≤ 6) : gB (gPr D f) = true := by
  obtain ⟨_, h3, hs⟩ := netE_pos hn
  have h := row_bd hf (l := D.map sOf) (fun s hs' => by
    obtain ⟨p, hp, rfl⟩ := List.mem_map.1 hs'
    exact sec_ok (hs p hp)) (by simpa using h3)
  have h1 : nG (respG f (D.map sOf)) ≤ 84027672 := by unfold respG; omega
  have h2 := nG_bd h1
  unfold gB gPr
  rw [Bool.and_eq_true, wi_iff, wi_iff]
  simp only
  omega
theorem respsE_gPr {D : List T3} {fs : List Int} (hn : (netE D).2 = 0) (hf : freE fs = 0) : respsE (fs.map (gPr D)) = 0 := by
  obtain ⟨h1, h2⟩ := freE_ok9 hf
  unfold respsE
  rw [List.length_map]
  have h3 : ((fs.map (gPr D)).any (fun p => !gB p)) = false := by
    rw [List.any_eq_false]
    intro p hp
    obtain ⟨f, hf', rfl⟩ := List.mem_map.1 hp
    rw [gB_gPr hn (h2 f hf')]; simp
  rw [h3, decide_eq_true (show ((fs.length : Nat) : Int) ≤ 8 by omega)]
  rfl
/-- A set without errors is a list of indexes of 'ext'. -/
theorem setE_nats {m : Nat} {S : List Int} (h : setE m S = 0) : ∃ T, nats T = S ∧ T ∈ ext m S.length 0 := by
  have h1 := setE_mem h
  obtain ⟨_, h2⟩ := setE_zero h
  refine ⟨S.map Int.toNat, ?_, ?_⟩
  · unfold nats
    rw [List.map_map]
    refine (List.map_congr_left (g := id) fun i hi => ?_).trans (List.map_id S)
    have := h1 i hi
    simp only [Function.comp, id]
    omega
  · rw [ext_mem]
    refine ⟨by simp, ?_, fun x hx => ?_⟩
    · rw [List.pairwise_map]
      have h3 : S.Pairwise (· < ·) := by
        rw [List.pairwise_iff_getElem]
        intro i j hi hj hij
        have h4 : ∀ d, i + d + 1 < S.length → S.getD i 0 < S.getD (i + d + 1) 0 := by
          intro d
          induction d with
          | zero => intro hd; exact h2 i hd
          | succ d ih => intro hd; have := ih (by omega); have := h2 (i + d + 1) (by omega); simp only [Nat.add_assoc] at *; omega
        have := h4 (j - i - 1) (by omega)
        rw [show i + (j - i - 1) + 1 = j by omega, List.getD_eq_getElem?_getD, List.getD_eq_getElem?_getD, List.getElem?_eq_getElem hi, List.getElem?_eq_getElem hj] at this
        exact this
      refine List.Pairwise.imp_of_mem ?_ h3
      intro a b ha hb hab
      have := h1 a ha
      have := h1 b hb
      omega
    · obtain ⟨i, hi, rfl⟩ := List.mem_map.1 hx
      have := h1 i hi
      omega
theorem ext_setE {m k : Nat} {T : List Nat} (h : T ∈ ext m k 0) : setE m (nats T) = 0 := by
  rw [ext_mem] at h
  obtain ⟨_, h2, h3⟩ := h
  have hl : (nats T).length = T.length := by simp [nats]
  have hg : ∀ i, i < T.length → (nats T).getD i 0 = ((T.getD i 0 : Nat) : Int) := fun i hi => by
    unfold nats
    rw [List.getD_eq_getElem?_getD, List.getElem?_map, List.getElem?_eq_getElem hi, List.getD_eq_getElem?_getD, List.getElem?_eq_getElem hi]
    rfl
  have hm : ∀ i, i < T.length → T.getD i 0 < m := fun i hi => by
    rw [List.getD_eq_getElem?_getD, List.getElem?_eq_getElem hi]
    exact (h3 _ (List.getElem_mem hi)).2
  unfold setE
  rw [firstAt_all]
  intro j _ hj
  rw [hl] at hj
  unfold clE
  rw [hg j (by omega), show wi ((T.getD j 0 : Nat) : Int) 0 ((m : Int) - 1) = true by rw [wi_iff]; have := hm j (by omega); omega]
  have h4 : (decide (j = 0) || decide ((nats T).getD (j - 1) 0 < ((T.getD j 0 : Nat) : Int))) = true := by
    by_cases h0 : j = 0
    · simp [h0]
    · rw [hg (j - 1) (by omega)]
      rw [List.pairwise_iff_getElem] at h2
      have := h2 (j - 1) j (by omega) (by omega) (by omega)
      rw [List.getD_eq_getElem?_getD, List.getElem?_eq_getElem (show j - 1 < T.length by omega), List.getD_eq_getElem?_getD, List.getElem?_eq_getElem (show j < T.length by omega)]
      simp only [Option.getD_some]
      rw [Bool.or_eq_true]
      right
      rw [decide_eq_true_eq]
      omega
  rw [h4]
  rfl
theorem xpS_found {p : List Nat → Bool} {m : Nat} : ∀ (t k q : Nat) (T : List Nat), T ∈ ext m q 0 → p T = true → k ≤ q → q < k + t →
    ∃ j, k ≤ j ∧ j ≤ q ∧ xpS p m t k = ((ext m j 0).filter p, 0) ∧ (ext m j 0).filter p ≠ []
  | 0, k, q, T, _, _, h1, h2 => by omega
  | t + 1, k, q, T, hT, hp, h1, h2 => by
    unfold xpS
    by_cases h : (ext m k 0).filter p ≠ []
    · rw [if_pos h]; exact ⟨k, Nat.le_refl _, h1, rfl, h⟩
    · rw [if_neg h]
      have hkq : k ≠ q := by
        rintro rfl
        refine h ?_
        intro he
        have : T ∈ (ext m k 0).filter p := List.mem_filter.2 ⟨hT, hp⟩
        rw [he] at this
        simp at this
      obtain ⟨j, h3, h4, h5, h6⟩ := xpS_found t (k + 1) q T hT hp (by omega) (by omega)
      exact ⟨j, by omega, h4, h5, h6⟩
theorem defsE_pick {n m : Nat} {l : List T3} {S : List Int} (h : defsE n l = 0) (hm : l.length = m) (hS : setE m S = 0) : defsE n (pick l S) = 0 := by
  have h1 := (defsE_zero h).1
  have h2 := setE_few hS
  have h3 := setE_zero hS
  unfold defsE at h ⊢
  rw [if_neg (by omega)] at h
  rw [pick_len, if_neg (by omega), firstAt_all]
  intro j _ hj
  rw [pick_at (by omega)]
  have := h3.1 j (by omega)
  exact (firstAt_none _ _ h).2 (S.getD j 0).toNat (by omega) (by omega)
end Go.Proofs.YtdklmcicogmeaaaGreat
