import Derived.Test.YthkekjgdknnaiaaGreatDDef2
import Derived.Test.YthkekjgdknnaiaaGreatDXpe
import Derived.Test.YthkekjgdknnaiaaGreatDXpl
import Derived.Test.YthkekjgdknnaiaaGreatMPlainInit
import Derived.Test.YthkekjgdknnaiaaGreatRMeas
/- Responses with the errors: the program's functions; the frequency 0; a section of zeros. -/
namespace Go.Proofs.YthkekjgdknnaiaaGreat
open Go.RowKit
set_option linter.unusedVariables false

def rspE (s : List T3) (f : Int) : Int := firstErr [(netE s).2, unl (wi f 0 6) 2]
def rsoE (s : List T3) (fs : List Int) : Int := firstErr [(netE s).2, freE fs]
theorem col_zero (w : Int) (p : GI × GI) : colStep w ⟨0, 0, 0⟩ p = p := by
  obtain ⟨⟨a, b⟩, ⟨c, d⟩⟩ := p
  unfold colStep Sec.z Sec.y GI.add GI.mul
  simp
theorem gPr_longer (s : List T3) (f : Int) : gPr (s ++ [⟨0, 0, 0⟩]) f = gPr s f := by
  unfold gPr
  rw [resp_col, resp_col, List.map_append, List.foldr_append]
  rw [show ([⟨0, 0, 0⟩] : List T3).map sOf = [⟨0, 0, 0⟩] from rfl, List.foldr_cons, List.foldr_nil, col_zero]
theorem col_at_zero : ∀ (l : List Sec), l.foldr (colStep 0) (⟨1, 0⟩, ⟨0, 0⟩) = (⟨1, 0⟩, ⟨0, 0⟩)
  | [] => rfl
  | s :: r => by
    rw [List.foldr_cons, col_at_zero r]
    unfold colStep Sec.z Sec.y GI.add GI.mul
    simp
theorem gPr_zero (s : List T3) : gPr s 0 = (1, 0) := by
  unfold gPr
  rw [resp_col, col_at_zero]
set_option maxHeartbeats 1000000 in
set_option maxRecDepth 100000 in
theorem responsesOf_any (s : List T3) (fs : List Int) (a af : Option Addr) (n c m cm : Nat) (w : World) (hs : T3R w a n s) (hf : IntsR w af m fs) :
    Calls Tryz.prog 70 #[.agg #[.slice a n c], .slice af m cm] w fun e' w' => ∃ a' k' c', e' = .returned (.tuple #[.slice a' k' c', .int .i64 (rsoE s fs)]) ∧ Below w.heap.size w w' ∧ PairsR w' a' k' (if rsoE s fs = 0 then fs.map (gPr s) else []) := by
  have HN := Lib.hid (fun (W : World) (hb : Below w.heap.size w W) => networkErr_any s a n c W (hs.below hb))
  have HFE := Lib.hid (fun (W : World) (hb : Below w.heap.size w W) => frequenciesErr_any fs af m cm W (hf.below hb))
  have HR := Lib.hid (fun (h : rsoE s fs = 0) (W : World) (hb : Below w.heap.size w W) => show Calls Tryz.prog 135 #[.agg #[.slice a n c], .slice af m cm] W fun e' w' => ∃ a' c', e' = .returned (.slice a' m c') ∧ Below W.heap.size W w' ∧ PairsR w' a' m (fs.map (gPr s)) by
    obtain ⟨h1, h2⟩ := firstErr_cons.1 h
    obtain ⟨h2, _⟩ := firstErr_cons.1 h2
    have k1 := netE_ok h1
    have k2 : fs.length ≤ 8 ∧ ∀ f ∈ fs, 0 ≤ f ∧ f ≤ 6 := by
      unfold freE at h2
      obtain ⟨g1, g2⟩ := firstErr_cons.1 h2
      obtain ⟨g3, _⟩ := firstErr_cons.1 g2
      rw [unl_eq_zero (by omega)] at g1 g3
      rw [decide_eq_true_eq] at g1
      rw [Bool.not_eq_true', List.any_eq_false] at g3
      exact ⟨by omega, fun f hf => by have := g3 f hf; simpa [wi_iff] using this⟩
    refine (responses_any s fs a af n c m cm W (hs.below hb) (hf.below hb) (by have := hs.len; omega) k1.2.2 k2.2 (by have := hf.len; omega)).mono ?_
    rintro e W' ⟨a', c', h1, _, h2, h3, _⟩
    exact ⟨a', c', h1, h2, h3⟩)
  have HE := Lib.hid (show rsoE s fs = firstErr [(netE s).2, freE fs] from rfl)
  clear hs hf
  generalize rsoE s fs = E at *
  generalize fs.map (gPr s) = P at *
  generalize (netE s).2 = e1 at *
  generalize freE fs = e2 at *
  by_cases h0 : E = 0
  · rw [if_pos h0]
    have HRR := Lib.hid (HR.out h0)
    subst h0
    clear HR
    go_enter Tryz.func70, Tryz.ntmps70
    go_wp2_with fail
    generalize hW : World.alloc _ _ = w5
    have hb5 : Below w.heap.size w w5 := by rw [← hW]; (repeat' (first | (with_reducible exact Below.refl _ _) | (with_reducible assumption) | (with_reducible refine Below.drewN ?_ _) | (with_reducible refine Below.alloc ?_ ?_ _) | (with_reducible refine Below.drew ?_) | (with_reducible refine Below.setCell ?_ ?_ _) | (with_reducible refine Below.step (by assumption) ?_ ?_) | (with_reducible exact And.left (by assumption)) | go_size))
    have q0 : w5.cell? ⟨w.heap.size, 0, none⟩ = some (.slice a n c) := by { rw [← hW]; clear hW; go_simp }
    have l1 : w.heap.size < w5.heap.size := by { rw [← hW]; clear hW; simp }
    have HB := Lib.hid hb5
    clear hW hb5
    refine (HN.out _ HB.out).mono ?_
    rintro e6 w6 ⟨rfl, hb6⟩
    have HB := Lib.hid (HB.out.trans (hb6.mono HB.out.size))
    go_wp2_with fail
    refine (HFE.out _ HB.out).mono ?_
    rintro e7 w7 ⟨rfl, hb7⟩
    have h57 : Below w5.heap.size w5 w7 := hb6.trans (hb7.mono hb6.size)
    have HB := Lib.hid (HB.out.trans (hb7.mono HB.out.size))
    go_wp2_with fail
    refine (d_first2 _ _ _ _ _ _ (by rfl) (by simp)).mono ?_
    rintro e9 w9 ⟨rfl, hw9⟩
    have hb9 : Below w5.heap.size w5 w9 := h57.trans ((show Below w7.heap.size w7 w9 by rw [← hw9]; (repeat' (first | (with_reducible exact Below.refl _ _) | (with_reducible assumption) | (with_reducible refine Below.drewN ?_ _) | (with_reducible refine Below.alloc ?_ ?_ _) | (with_reducible refine Below.drew ?_) | (with_reducible refine Below.setCell ?_ ?_ _) | (with_reducible refine Below.step (by assumption) ?_ ?_) | (with_reducible exact And.left (by assumption)) | go_size))).mono h57.size)
    rw [← HE.out]
    have hz9 := hb9.size
    have q0d : w9.cell? ⟨w.heap.size, 0, none⟩ = some (.slice a n c) := by { rw [cellB hb9 _ _ (by first | (simp; done) | (simp; omega) | omega)]; all_goals (first | assumption | go_simp) }
    have l0d : w.heap.size < w9.heap.size := by omega
    have HB := Lib.hid (show Below w.heap.size w w9 from HB.out.trans ((show Below w7.heap.size w7 w9 by rw [← hw9]; (repeat' (first | (with_reducible exact Below.refl _ _) | (with_reducible assumption) | (with_reducible refine Below.drewN ?_ _) | (with_reducible refine Below.alloc ?_ ?_ _) | (with_reducible refine Below.drew ?_) | (with_reducible refine Below.setCell ?_ ?_ _) | (with_reducible refine Below.step (by assumption) ?_ ?_) | (with_reducible exact And.left (by assumption)) | go_size))).mono HB.out.size))
    clear hb6 hb7 h57 hw9 hb9 hz9 q0 l1
    go_wp2_with fail
    refine (HRR.out _ HB.out).mono ?_
    rintro e10 wa ⟨a', c', rfl, hba, hpa⟩
    have HB := Lib.hid (HB.out.trans (hba.mono HB.out.size))
    have HP := Lib.hid hpa
    clear hba hpa
    go_wp2
    go_ret2
    exact ⟨a', m, c', rfl, HB.out, HP.out⟩
  · rw [if_neg h0]
    have hE1 : (E != 0) = true := by simpa using h0
    clear HR h0
    go_enter Tryz.func70, Tryz.ntmps70
    go_wp2_with fail
    generalize hW : World.alloc _ _ = w5
    have hb5 : Below w.heap.size w w5 := by rw [← hW]; (repeat' (first | (with_reducible exact Below.refl _ _) | (with_reducible assumption) | (with_reducible refine Below.drewN ?_ _) | (with_reducible refine Below.alloc ?_ ?_ _) | (with_reducible refine Below.drew ?_) | (with_reducible refine Below.setCell ?_ ?_ _) | (with_reducible refine Below.step (by assumption) ?_ ?_) | (with_reducible exact And.left (by assumption)) | go_size))
    have q0 : w5.cell? ⟨w.heap.size, 0, none⟩ = some (.slice a n c) := by { rw [← hW]; clear hW; go_simp }
    have l1 : w.heap.size < w5.heap.size := by { rw [← hW]; clear hW; simp }
    have HB := Lib.hid hb5
    clear hW hb5
    refine (HN.out _ HB.out).mono ?_
    rintro e6 w6 ⟨rfl, hb6⟩
    have HB := Lib.hid (HB.out.trans (hb6.mono HB.out.size))
    go_wp2_with fail
    refine (HFE.out _ HB.out).mono ?_
    rintro e7 w7 ⟨rfl, hb7⟩
    have h57 : Below w5.heap.size w5 w7 := hb6.trans (hb7.mono hb6.size)
    have HB := Lib.hid (HB.out.trans (hb7.mono HB.out.size))
    go_wp2_with fail
    refine (d_first2 _ _ _ _ _ _ (by rfl) (by simp)).mono ?_
    rintro e9 w9 ⟨rfl, hw9⟩
    have hb9 : Below w5.heap.size w5 w9 := h57.trans ((show Below w7.heap.size w7 w9 by rw [← hw9]; (repeat' (first | (with_reducible exact Below.refl _ _) | (with_reducible assumption) | (with_reducible refine Below.drewN ?_ _) | (with_reducible refine Below.alloc ?_ ?_ _) | (with_reducible refine Below.drew ?_) | (with_reducible refine Below.setCell ?_ ?_ _) | (with_reducible refine Below.step (by assumption) ?_ ?_) | (with_reducible exact And.left (by assumption)) | go_size))).mono h57.size)
    rw [← HE.out]
    have hz9 := hb9.size
    have q0d : w9.cell? ⟨w.heap.size, 0, none⟩ = some (.slice a n c) := by { rw [cellB hb9 _ _ (by first | (simp; done) | (simp; omega) | omega)]; all_goals (first | assumption | go_simp) }
    have l0d : w.heap.size < w9.heap.size := by omega
    have HB := Lib.hid (show Below w.heap.size w w9 from HB.out.trans ((show Below w7.heap.size w7 w9 by rw [← hw9]; (repeat' (first | (with_reducible exact Below.refl _ _) | (with_reducible assumption) | (with_reducible refine Below.drewN ?_ _) | (with_reducible refine Below.alloc ?_ ?_ _) | (with_reducible refine Below.drew ?_) | (with_reducible refine Below.setCell ?_ ?_ _) | (with_reducible refine Below.step (by assumption) ?_ ?_) | (with_reducible exact And.left (by assumption)) | go_size))).mono HB.out.size))
    clear hb6 hb7 h57 hw9 hb9 hz9 q0 l1
    go_wp2
    go_ret2
    exact ⟨none, 0, 0, rfl, HB.out, PairsR.nil _ _⟩
end Go.Proofs.YthkekjgdknnaiaaGreat

/- The responses of a network with some changes have explanations: in plain words. -/
namespace Go.Proofs.YthkekjgdknnaiaaGreat
open Go.RowKit
set_option linter.unusedVariables false

theorem gB_gPr {D : List T3} {f : Int} (hn : (netE D).2 = 0) (hf : 0 ≤ f ∧ f ≤ 6) : gB (gPr D f) = true := by
  obtain ⟨_, h3, hs⟩ := netE_pos hn
  have h := row_bd hf (l := D.map sOf) (fun s hs' => by
    obtain ⟨p, hp, rfl⟩ := List.mem_map.1 hs'
    exact sec_ok (hs p hp)) (by simpa using h3)
  have h1 : nG (respG f (D.map sOf)) ≤ 84027672 := by unfold respG; omega
  have h2 := nG_bd h1
  unfold gB gPr
  rw [Bool.and_eq_true, wi_iff, wi_iff]
  simp only
  omega
theorem respsE_gPr {D : List T3} {fs : List Int} (hn : (netE D).2 = 0) (hf : freE fs = 0) : respsE (fs.map (gPr D)) = 0 := by
  obtain ⟨h1, h2⟩ := freE_ok9 hf
  unfold respsE
  rw [List.length_map]
  have h3 : ((fs.map (gPr D)).any (fun p => !gB p)) = false := by
    rw [List.any_eq_false]
    intro p hp
    obtain ⟨f, hf', rfl⟩ := List.mem_map.1 hp
    rw [gB_gPr hn (h2 f hf')]; simp
  rw [h3, decide_eq_true (show ((fs.length : Nat) : Int) ≤ 8 by omega)]
  rfl
/-- A set without errors is a list of indexes of 'ext'. -/
theorem setE_nats {m : Nat} {S : List Int} (h : setE m S = 0) : ∃ T, nats T = S ∧ T ∈ ext m S.length 0 := by
  have h1 := setE_mem h
  obtain ⟨_, h2⟩ := setE_zero h
  refine ⟨S.map Int.toNat, ?_, ?_⟩
  · unfold nats
    rw [List.map_map]
    refine (List.map_congr_left (g := id) fun i hi => ?_).trans (List.map_id S)
    have := h1 i hi
    simp only [Function.comp, id]
    omega
  · rw [ext_mem]
    refine ⟨by simp, ?_, fun x hx => ?_⟩
    · rw [List.pairwise_map]
      have h3 : S.Pairwise (· < ·) := by
        rw [List.pairwise_iff_getElem]
        intro i j hi hj hij
        have h4 : ∀ d, i + d + 1 < S.length → S.getD i 0 < S.getD (i + d + 1) 0 := by
          intro d
          induction d with
          | zero => intro hd; exact h2 i hd
          | succ d ih => intro hd; have := ih (by omega); have := h2 (i + d + 1) (by omega); simp only [Nat.add_assoc] at *; omega
        have := h4 (j - i - 1) (by omega)
        rw [show i + (j - i - 1) + 1 = j by omega, List.getD_eq_getElem?_getD, List.getD_eq_getElem?_getD, List.getElem?_eq_getElem hi, List.getElem?_eq_getElem hj] at this
        exact this
      refine List.Pairwise.imp_of_mem ?_ h3
      intro a b ha hb hab
      have := h1 a ha
      have := h1 b hb
      omega
    · obtain ⟨i, hi, rfl⟩ := List.mem_map.1 hx
      have := h1 i hi
      omega
theorem ext_setE {m k : Nat} {T : List Nat} (h : T ∈ ext m k 0) : setE m (nats T) = 0 := by
  rw [ext_mem] at h
  obtain ⟨_, h2, h3⟩ := h
  have hl : (nats T).length = T.length := by simp [nats]
  have hg : ∀ i, i < T.length → (nats T).getD i 0 = ((T.getD i 0 : Nat) : Int) := fun i hi => by
    unfold nats
    rw [List.getD_eq_getElem?_getD, List.getElem?_map, List.getElem?_eq_getElem hi, List.getD_eq_getElem?_getD, List.getElem?_eq_getElem hi]
    rfl
  have hm : ∀ i, i < T.length → T.getD i 0 < m := fun i hi => by
    rw [List.getD_eq_getElem?_getD, List.getElem?_eq_getElem hi]
    exact (h3 _ (List.getElem_mem hi)).2
  unfold setE
  rw [firstAt_all]
  intro j _ hj
  rw [hl] at hj
  unfold clE
  rw [hg j (by omega), show wi ((T.getD j 0 : Nat) : Int) 0 ((m : Int) - 1) = true by rw [wi_iff]; have := hm j (by omega); omega]
  have h4 : (decide (j = 0) || decide ((nats T).getD (j - 1) 0 < ((T.getD j 0 : Nat) : Int))) = true := by
    by_cases h0 : j = 0
    · simp [h0]
    · rw [hg (j - 1) (by omega)]
      rw [List.pairwise_iff_getElem] at h2
      have := h2 (j - 1) j (by omega) (by omega) (by omega)
      rw [List.getD_eq_getElem?_getD, List.getElem?_eq_getElem (show j - 1 < T.length by omega), List.getD_eq_getElem?_getD, List.getElem?_eq_getElem (show j < T.length by omega)]
      simp only [Option.getD_some]
      rw [Bool.or_eq_true]
      right
      rw [decide_eq_true_eq]
      omega
  rw [h4]
  rfl
theorem xpS_found {p : List Nat → Bool} {m : Nat} : ∀ (t k q : Nat) (T : List Nat), T ∈ ext m q 0 → p T = true → k ≤ q → q < k + t →
    ∃ j, k ≤ j ∧ j ≤ q ∧ xpS p m t k = ((ext m j 0).filter p, 0) ∧ (ext m j 0).filter p ≠ []
  | 0, k, q, T, _, _, h1, h2 => by omega
  | t + 1, k, q, T, hT, hp, h1, h2 => by
    unfold xpS
    by_cases h : (ext m k 0).filter p ≠ []
    · rw [if_pos h]; exact ⟨k, Nat.le_refl _, h1, rfl, h⟩
    · rw [if_neg h]
      have hkq : k ≠ q := by
        rintro rfl
        refine h ?_
        intro he
        have : T ∈ (ext m k 0).filter p := List.mem_filter.2 ⟨hT, hp⟩
        rw [he] at this
        simp at this
      obtain ⟨j, h3, h4, h5, h6⟩ := xpS_found t (k + 1) q T hT hp (by omega) (by omega)
      exact ⟨j, by omega, h4, h5, h6⟩
theorem defsE_pick {n m : Nat} {l : List T3} {S : List Int} (h : defsE n l = 0) (hm : l.length = m) (hS : setE m S = 0) : defsE n (pick l S) = 0 := by
  have h1 := (defsE_zero h).1
  have h2 := setE_few hS
  have h3 := setE_zero hS
  unfold defsE at h ⊢
  rw [if_neg (by omega)] at h
  rw [pick_len, if_neg (by omega), firstAt_all]
  intro j _ hj
  rw [pick_at (by omega)]
  have := h3.1 j (by omega)
  exact (firstAt_none _ _ h).2 (S.getD j 0).toNat (by omega) (by omega)
end Go.Proofs.YthkekjgdknnaiaaGreat

/- Sets of bits, the lexicographic order, all explanations: the reference's functions. -/
namespace Go.Proofs.YthkekjgdknnaiaaGreat
open Go.RowKit
set_option linter.unusedVariables false

theorem bef_step {S T : List Nat} {k : Nat} (h1 : k < S.length) (h2 : k < T.length) : bef (S.drop k) (T.drop k) = if S.getD k 0 = T.getD k 0 then bef (S.drop (k + 1)) (T.drop (k + 1)) else decide (S.getD k 0 < T.getD k 0) := by
  rw [List.drop_eq_getElem_cons h1, List.drop_eq_getElem_cons h2]
  rw [List.getD_eq_getElem?_getD, List.getElem?_eq_getElem h1, List.getD_eq_getElem?_getD, List.getElem?_eq_getElem h2]
  rfl
theorem bef_end {S T : List Nat} {k : Nat} (h1 : k ≤ S.length) (h2 : k ≤ T.length) (h : k = S.length ∨ k = T.length) : bef (S.drop k) (T.drop k) = decide (S.length < T.length) := by
  by_cases hs : k = S.length
  · subst hs
    rw [List.drop_length]
    by_cases ht : S.length = T.length
    · rw [ht, List.drop_length, decide_eq_false (by omega)]; rfl
    · rw [List.drop_eq_getElem_cons (show S.length < T.length by omega), decide_eq_true (by omega)]; rfl
  · obtain rfl : k = T.length := by omega
    rw [List.drop_length, List.drop_eq_getElem_cons (show T.length < S.length by omega), decide_eq_false (by omega)]; rfl
theorem nats_getD {S : List Nat} {k : Nat} (h : k < S.length) : (nats S).getD k 0 = ((S.getD k 0 : Nat) : Int) := by
  unfold nats
  rw [List.getD_eq_getElem?_getD, List.getElem?_map, List.getElem?_eq_getElem h, List.getD_eq_getElem?_getD, List.getElem?_eq_getElem h]
  rfl
theorem IntsR.cellX {w : World} {b o : Nat} {n : Nat} {l : List Int} (h : IntsR w (some ⟨b, o, none⟩) n l) {k : Nat} (hk : k < n) : w.cell? ⟨b, o + k, none⟩ = some (.int .i64 (l.getD k 0)) := by
  have hl := h.len
  obtain ⟨b', o', e, _, hc⟩ := h.2.2 (by omega)
  simp only [Option.some.injEq, Addr.mk.injEq] at e
  obtain ⟨rfl, rfl, _⟩ := e
  refine hc k _ ?_
  unfold icells
  rw [List.getElem?_map, List.getD_eq_getElem?_getD, List.getElem?_eq_getElem (by omega)]
  rfl
theorem IntsR.blockX {w : World} {a : Option Addr} {n : Nat} {l : List Int} (h : IntsR w a n l) (hn : 0 < n) : ∃ b o, a = some ⟨b, o, none⟩ ∧ b < w.heap.size := by
  obtain ⟨b, o, e, hb, _⟩ := h.2.2 hn
  exact ⟨b, o, e, hb⟩
set_option maxHeartbeats 1000000 in
set_option maxRecDepth 100000 in
theorem before_any (S T : List Nat) (a1 a2 : Option Addr) (n1 c1 n2 c2 : Nat) (w : World) (h1 : IntsR w a1 n1 (nats S)) (h2 : IntsR w a2 n2 (nats T)) :
    Calls Tryz.prog 90 #[.slice a1 n1 c1, .slice a2 n2 c2] w fun e' w' => e' = .returned (.bool (bef S T)) ∧ ∃ m, w' = w.drewN m := by
  have H1 := Lib.hid h1
  have H2 := Lib.hid h2
  have hn1 := h1.small
  have hn2 := h2.small
  have L1 : S.length = n1 := by have := h1.len; simpa [nats] using this
  have L2 : T.length = n2 := by have := h2.len; simpa [nats] using this
  have HL := Lib.hid (And.intro L1 L2)
  obtain ⟨V, hV⟩ : ∃ V, V = bef S T := ⟨_, rfl⟩
  have HV := Lib.hid hV
  rw [← hV]
  clear h1 h2 L1 L2 hV
  go_enter Tryz.func90, Tryz.ntmps90
  go_wp2_with fail
  go_loopw [5] (fun i wr => ∃ k : Nat, i = .int .i64 k ∧ k ≤ n1 ∧ k ≤ n2 ∧ Hid (V = bef (S.drop k) (T.drop k)) ∧ ∃ m, wr = w.drewN m) (fun i _ => n1 - (intOf i).toNat)
  case atStart => exact ⟨0, rfl, Nat.zero_le _, Nat.zero_le _, HV, 0, rfl⟩
  case round =>
    obtain ⟨k, rfl, hk1, hk2, hF, m, rfl⟩ := hrel
    have i0 : (0 : Int) ≤ (k : Int) := by omega
    by_cases hlt1 : k < n1
    · by_cases hlt2 : k < n2
      · have i1 : (k : Int) < (n1 : Int) := by omega
        have i2 : (k : Int) < (n2 : Int) := by omega
        obtain ⟨b1, o1, rfl, hb1⟩ := H1.out.blockX (by omega)
        obtain ⟨b2, o2, rfl, hb2⟩ := H2.out.blockX (by omega)
        have c1 := H1.out.cellX hlt1
        have c2 := H2.out.cellX hlt2
        have hF' := hF.out
        rw [bef_step (by have := HL.out; omega) (by have := HL.out; omega)] at hF'
        rw [nats_getD (by have := HL.out; omega)] at c1 c2
        generalize S.getD k 0 = x at *
        generalize T.getD k 0 = y at *
        by_cases hxy : x = y
        · subst hxy
          rw [if_pos rfl] at hF'
          have hF := Lib.hid hF'
          clear hF'
          go_wp2_with fail
          go_quiet (fail)
          go_wp2
          go_roundw
          case rel => exact ⟨k + 1, by go_num, by omega, by omega, hF, _, rfl⟩
          case measure => simp [intOf]; omega
        · rw [if_neg hxy] at hF'
          have HV := Lib.hid hF'
          have e1 : (((x : Int)) != (y : Int)) = true := by simp; omega
          clear hF' hF
          go_wp2_with fail
          go_quiet (fail)
          go_wp2_with fail
          go_quiet (fail)
          go_wp2
          go_ret
          exact ⟨ret_bool (by rw [HV.out]), _, by rw [World.drewN_drewN, World.drewN_drewN]⟩
      · have i2 : ¬ (k : Int) < (n2 : Int) := by omega
        have HV := Lib.hid (hF.out.trans (bef_end (by have := HL.out; omega) (by have := HL.out; omega) (by right; have := HL.out; omega)))
        clear hF
        go_wp2
        go_ret
        exact ⟨ret_bool (by rw [HV.out, HL.out.1, HL.out.2]), _, rfl⟩
    · have i1 : ¬ (k : Int) < (n1 : Int) := by omega
      have HV := Lib.hid (hF.out.trans (bef_end (by have := HL.out; omega) (by have := HL.out; omega) (by left; have := HL.out; omega)))
      clear hF
      go_wp2
      go_ret
      exact ⟨ret_bool (by rw [HV.out, HL.out.1, HL.out.2]), _, rfl⟩
theorem memB_next {f i N : Nat} (h : N ≠ 0) : memB (f + 1) i N = if N % 2 = 1 then i :: memB f (i + 1) (N / 2) else memB f (i + 1) (N / 2) := by
  rw [memB, if_neg h]
theorem memB_zero : ∀ f i, memB f i 0 = []
  | 0, _ => rfl
  | f + 1, i => by rw [memB, if_pos rfl]
theorem nats_snoc (A : List Nat) (i : Nat) : icells (nats (A ++ [i])) = icells (nats A) ++ [.int .i64 (i : Int)] := by
  simp [nats, icells]
set_option maxHeartbeats 1000000 in
set_option maxRecDepth 100000 in
theorem members_any (f N : Nat) (w : World) (hf : f ≤ 30) (hN : N < 2 ^ f) :
    Calls Tryz.prog 89 #[.int .i64 (N : Int)] w fun e' w' => ∃ a' k' c', e' = .returned (.slice a' k' c') ∧ Below w.heap.size w w' ∧ w'.ownsRow w.heap.size 3 1 (.slice a' k' c') k' (icells (nats (memB f 0 N))) := by
  obtain ⟨V, hV⟩ : ∃ V, V = memB f 0 N := ⟨_, rfl⟩
  have HV := Lib.hid hV
  rw [← hV]
  clear hV
  have hNb : N < 2 ^ 30 := Nat.lt_of_lt_of_le hN (Nat.pow_le_pow_right (by omega) hf)
  have HN := Lib.hid hN
  clear hN
  go_enter Tryz.func89, Tryz.ntmps89
  go_wp2_with fail
  go_loopw [0, 3, 4] (fun x v i wr => ∃ (j M k : Nat) (A : List Nat) (av : Option Addr) (cv : Nat), x = .int .i64 (M : Int) ∧ i = .int .i64 (j : Int) ∧ v = .slice av k cv ∧ j ≤ f ∧ k ≤ j ∧ M < 2 ^ 30 ∧ Hid (M < 2 ^ (f - j)) ∧ Hid (V = A ++ memB (f - j) j M) ∧ Hid (wr.ownsRow w.heap.size 3 1 (.slice av k cv) k (icells (nats A))) ∧ Hid (Below w.heap.size w wr)) (fun x _ _ _ => (intOf x).toNat)
  case atStart => exact ⟨0, N, 0, [], none, 0, rfl, rfl, rfl, Nat.zero_le _, Nat.le_refl _, hNb, HN, HV, Lib.hid (World.ownsRow_nil _ _ _ _), Lib.hid (Below.refl _ _)⟩
  case round =>
    obtain ⟨j, M, k, A, av, cv, rfl, rfl, rfl, hj, hk, hM, hMf, hF, hO, hB⟩ := hrel
    by_cases h0 : M = 0
    · subst h0
      have hF' := hF.out
      rw [memB_zero, List.append_nil] at hF'
      have HF := Lib.hid hF'
      clear hF hF'
      go_wp2
      go_ret
      exact ⟨av, k, cv, rfl, hB.out, by rw [HF.out]; exact hO.out⟩
    · have hp : 0 < M := by omega
      have hjf : j < f := by
        rcases Nat.lt_or_ge j f with h | h
        · exact h
        · have := hMf.out
          rw [show f - j = 0 by omega] at this
          simp at this; omega
      have hF' := hF.out
      have hM' := hMf.out
      rw [show f - j = (f - (j + 1)) + 1 by omega] at hF' hM'
      rw [memB_next h0] at hF'
      have HM2 := Lib.hid (show M / 2 < 2 ^ (f - (j + 1)) by rw [Nat.pow_succ] at hM'; omega)
      have w2 : IntKind.i64.wrap ((j : Int) + 1) = ((j + 1 : Nat) : Int) := by rw [IntKind.wrap_i64]; omega
      have hMi : (0 : Int) ≤ (M : Int) := by omega
      have hzr := hB.out.size
      by_cases hodd : M % 2 = 1
      · rw [if_pos hodd] at hF'
        have HF := Lib.hid (show V = (A ++ [j]) ++ memB (f - (j + 1)) (j + 1) (M / 2) by rw [hF']; simp)
        have HT := Lib.hid (nats_snoc A j)
        have w1' : (M : Int).tmod 2 = 1 := by rw [Int.tmod_eq_emod_of_nonneg hMi]; omega
        have w1 : IntKind.i64.wrap ((M : Int).tmod 2) = 1 := by rw [w1']; rfl
        have w3' : (M : Int).tdiv 2 = ((M / 2 : Nat) : Int) := by rw [Int.tdiv_eq_ediv_of_nonneg hMi]; omega
        have w3 : IntKind.i64.wrap ((M : Int).tdiv 2) = ((M / 2 : Nat) : Int) := by rw [w3', IntKind.wrap_i64]; omega
        clear hF hF' hM' hMf
        go_wp2_with (at_builtin; refine wpList_append_sl _ rfl _ _ 26 rfl w.heap.size 3 _ 1 8 Tryz.underlying26 infoInt rfl (by omega) (.slice av k cv) k _ rfl (hO.out.alloc _) _ 1 1 [.int .i64 (j : Int)] rfl (SlR.lit _ _ _ _ _ 1 1 (by rfl) (by simp) rfl (by omega)) (by simp [Value.oneCell']) (by omega) (by omega) (by simp; omega) ?_)
        intro v2 w2' hown2 hgr2 hb2
        obtain ⟨av2, cv2, rfl, _, _⟩ := owns_slice hown2
        rw [← HT.out] at hown2
        have HO2 := Lib.hid hown2
        have HB2 := Lib.hid ((hB.out.alloc (by omega) _).trans hb2)
        clear hown2 hgr2 hb2 hO hB HT
        go_wp2
        go_roundw
        case rel => exact ⟨j + 1, M / 2, k + 1, A ++ [j], av2, cv2, by go_num, by go_num, rfl, by omega, by omega, by omega, HM2, HF, HO2, HB2⟩
        case measure => simp [intOf]; omega
      · rw [if_neg hodd] at hF'
        have HF := Lib.hid hF'
        have w1' : (M : Int).tmod 2 = 0 := by rw [Int.tmod_eq_emod_of_nonneg hMi]; omega
        have w1 : IntKind.i64.wrap ((M : Int).tmod 2) = 0 := by rw [w1']; rfl
        have w3' : (M : Int).tdiv 2 = ((M / 2 : Nat) : Int) := by rw [Int.tdiv_eq_ediv_of_nonneg hMi]; omega
        have w3 : IntKind.i64.wrap ((M : Int).tdiv 2) = ((M / 2 : Nat) : Int) := by rw [w3', IntKind.wrap_i64]; omega
        clear hF hF' hM' hMf
        go_wp2
        go_roundw
        case rel => exact ⟨j + 1, M / 2, k, A, av, cv, by go_num, by go_num, rfl, by omega, by omega, by omega, HM2, HF, hO, hB⟩
        case measure => simp [intOf]; omega
end Go.Proofs.YthkekjgdknnaiaaGreat
