import Derived.Test.YtkphbibonagkfaaGreatDDef2
import Derived.Test.YtkphbibonagkfaaGreatMPlainFrac
/- Responses with the errors: the program's functions; the frequency 0; a section of zeros. -/
namespace Go.Proofs.YtkphbibonagkfaaGreat
open Go.RowKit
set_option linter.unusedVariables false

def rspE (s : List T3) (f : Int) : Int := firstErr [(netE s).2, unl (wi f 0 6) 2]
def rsoE (s : List T3) (fs : List Int) : Int := firstErr [(netE s).2, freE fs]
theorem col_zero (w : Int) (p : GI × GI) : colStep w ⟨0, 0, 0⟩ p = p := by
  obtain ⟨⟨a, b⟩, ⟨c, d⟩⟩ := p
  unfold colStep Sec.z Sec.y GI.add GI.mul
  simp
theorem gPr_longer (s : List T3) (f : Int) : gPr (s ++ [⟨0, 0, 0⟩]) f = gPr s f := by
  unfold gPr
  rw [resp_col, resp_col, List.map_append, List.foldr_append]
  rw [show ([⟨0, 0, 0⟩] : List T3).map sOf = [⟨0, 0, 0⟩] from rfl, List.foldr_cons, List.foldr_nil, col_zero]
theorem col_at_zero : ∀ (l : List Sec), l.foldr (colStep 0) (⟨1, 0⟩, ⟨0, 0⟩) = (⟨1, 0⟩, ⟨0, 0⟩)
  | [] => rfl
  | s :: r => by
    rw [List.foldr_cons, col_at_zero r]
    unfold colStep Sec.z Sec.y GI.add GI.mul
    simp
theorem gPr_zero (s : List T3) : gPr s 0 = (1, 0) := by
  unfold gPr
  rw [resp_col, col_at_zero]
set_option maxHeartbeats 1000000 in
set_option maxRecDepth 100000 in
theorem responseAt_any (s : List T3) (f : Int) (a : Option Addr) (n c : Nat) (w : World) (hs : T3R w a n s) :
    Calls Tryz.prog 34 #[.agg #[.slice a n c], .int .i64 f] w fun e' w' => e' = .returned (.tuple #[.agg #[.int .i64 (if rspE s f = 0 then (gPr s f).1 else 0), .int .i64 (if rspE s f = 0 then (gPr s f).2 else 0)], .int .i64 (rspE s f)]) ∧ Below w.heap.size w w' := by
  have HN := Lib.hid (fun (W : World) (hb : Below w.heap.size w W) => networkErr_any s a n c W (hs.below hb))
  have HR := Lib.hid (fun (h : rspE s f = 0) (W : World) (hb : Below w.heap.size w W) => show Calls Tryz.prog 106 #[.agg #[.slice a n c], .int .i64 f] W fun e' w' => e' = .returned (.agg #[.int .i64 (gPr s f).1, .int .i64 (gPr s f).2]) ∧ Below W.heap.size W w' by
    obtain ⟨h1, h2⟩ := firstErr_cons.1 h
    obtain ⟨h2, _⟩ := firstErr_cons.1 h2
    have k1 := netE_ok h1
    rw [unl_eq_zero (by omega), wi_iff] at h2
    exact response_any s f a n c W (hs.below hb) (by have := hs.len; omega) k1.2.2 h2)
  have HE := Lib.hid (show rspE s f = firstErr [(netE s).2, unl (wi f 0 6) 2] from rfl)
  clear hs
  generalize rspE s f = E at *
  generalize gPr s f = P at *
  generalize (netE s).2 = e1 at *
  obtain ⟨P1, P2⟩ := P
  simp only at HR ⊢
  by_cases h0 : E = 0
  · rw [if_pos h0, if_pos h0]
    have HRR := Lib.hid (HR.out h0)
    subst h0
    clear HR
    go_enter Tryz.func34, Tryz.ntmps34
    go_wp2_with fail
    generalize hW : World.alloc _ _ = w5
    have hb5 : Below w.heap.size w w5 := by rw [← hW]; (repeat' (first | (with_reducible exact Below.refl _ _) | (with_reducible assumption) | (with_reducible refine Below.drewN ?_ _) | (with_reducible refine Below.alloc ?_ ?_ _) | (with_reducible refine Below.drew ?_) | (with_reducible refine Below.setCell ?_ ?_ _) | (with_reducible refine Below.step (by assumption) ?_ ?_) | (with_reducible exact And.left (by assumption)) | go_size))
    have q0 : w5.cell? ⟨w.heap.size, 0, none⟩ = some (.slice a n c) := by { rw [← hW]; clear hW; go_simp }
    have z0 : w5.cell? ⟨w.heap.size + 1, 0, none⟩ = some (.int .i64 0) := by { rw [← hW]; clear hW; go_simp }
    have z1 : w5.cell? ⟨w.heap.size + 1, 1, none⟩ = some (.int .i64 0) := by { rw [← hW]; clear hW; go_simp }
    have f0 : w5.frozen? ⟨w.heap.size + 1, 0, none⟩ = false := by { rw [← hW]; clear hW; go_simp }
    have f1 : w5.frozen? ⟨w.heap.size + 1, 1, none⟩ = false := by { rw [← hW]; clear hW; go_simp }
    have l1 : w.heap.size + 1 < w5.heap.size := by { rw [← hW]; clear hW; simp }
    have HB := Lib.hid hb5
    clear hW hb5
    refine (HN.out _ HB.out).mono ?_
    rintro e6 w6 ⟨rfl, hb6⟩
    have HB := Lib.hid (HB.out.trans (hb6.mono HB.out.size))
    have h16 : Below w5.heap.size w5 w6 := hb6
    go_wp2_with fail
    refine (isFrequency_any _ _).mono ?_
    rintro e7 w7 ⟨rfl, rfl⟩
    go_wp2_with fail
    refine (d_unless_any _ _ _).mono ?_
    rintro e8 w8 ⟨rfl, rfl⟩
    go_wp2_with fail
    refine (d_first2 _ _ _ _ _ _ (by rfl) (by simp)).mono ?_
    rintro e9 w9 ⟨rfl, hw9⟩
    have hb9 : Below w5.heap.size w5 w9 := h16.trans ((show Below w6.heap.size w6 w9 by rw [← hw9]; (repeat' (first | (with_reducible exact Below.refl _ _) | (with_reducible assumption) | (with_reducible refine Below.drewN ?_ _) | (with_reducible refine Below.alloc ?_ ?_ _) | (with_reducible refine Below.drew ?_) | (with_reducible refine Below.setCell ?_ ?_ _) | (with_reducible refine Below.step (by assumption) ?_ ?_) | (with_reducible exact And.left (by assumption)) | go_size))).mono h16.size)
    rw [← HE.out]
    have hz9 := hb9.size
    have q0d : w9.cell? ⟨w.heap.size, 0, none⟩ = some (.slice a n c) := by { rw [cellB hb9 _ _ (by first | (simp; done) | (simp; omega) | omega)]; all_goals (first | assumption | go_simp) }; have z0d : w9.cell? ⟨w.heap.size + 1, 0, none⟩ = some (.int .i64 0) := by { rw [cellB hb9 _ _ (by first | (simp; done) | (simp; omega) | omega)]; all_goals (first | assumption | go_simp) }; have z1d : w9.cell? ⟨w.heap.size + 1, 1, none⟩ = some (.int .i64 0) := by { rw [cellB hb9 _ _ (by first | (simp; done) | (simp; omega) | omega)]; all_goals (first | assumption | go_simp) }; have f0d : w9.frozen? ⟨w.heap.size + 1, 0, none⟩ = false := by { rw [frozenB hb9 _ _ (by first | (simp; done) | (simp; omega) | omega)]; all_goals (first | assumption | go_simp) }; have f1d : w9.frozen? ⟨w.heap.size + 1, 1, none⟩ = false := by { rw [frozenB hb9 _ _ (by first | (simp; done) | (simp; omega) | omega)]; all_goals (first | assumption | go_simp) }
    have l1d : w.heap.size + 1 < w9.heap.size := by omega
    have l0d : w.heap.size < w9.heap.size := by omega
    have HB := Lib.hid (show Below w.heap.size w w9 from HB.out.trans ((show Below w6.heap.size w6 w9 by rw [← hw9]; (repeat' (first | (with_reducible exact Below.refl _ _) | (with_reducible assumption) | (with_reducible refine Below.drewN ?_ _) | (with_reducible refine Below.alloc ?_ ?_ _) | (with_reducible refine Below.drew ?_) | (with_reducible refine Below.setCell ?_ ?_ _) | (with_reducible refine Below.step (by assumption) ?_ ?_) | (with_reducible exact And.left (by assumption)) | go_size))).mono HB.out.size))
    clear hb6 h16 hw9 hb9 hz9 q0 z0 z1 f0 f1 l1
    go_wp2_with fail
    refine (HRR.out _ HB.out).mono ?_
    rintro e10 wa ⟨rfl, hba⟩
    have hza := hba.size
    have z0 : wa.cell? ⟨w.heap.size + 1, 0, none⟩ = some (.int .i64 0) := by { rw [cellB hba _ _ (by first | (simp; done) | (simp; omega) | omega)]; all_goals (first | assumption | go_simp) }; have z1 : wa.cell? ⟨w.heap.size + 1, 1, none⟩ = some (.int .i64 0) := by { rw [cellB hba _ _ (by first | (simp; done) | (simp; omega) | omega)]; all_goals (first | assumption | go_simp) }; have f0 : wa.frozen? ⟨w.heap.size + 1, 0, none⟩ = false := by { rw [frozenB hba _ _ (by first | (simp; done) | (simp; omega) | omega)]; all_goals (first | assumption | go_simp) }; have f1 : wa.frozen? ⟨w.heap.size + 1, 1, none⟩ = false := by { rw [frozenB hba _ _ (by first | (simp; done) | (simp; omega) | omega)]; all_goals (first | assumption | go_simp) }; have l1 : w.heap.size + 1 < wa.heap.size := by { omega }
    have HB := Lib.hid (HB.out.trans (hba.mono HB.out.size))
    clear hba hza q0d z0d z1d f0d f1d l0d l1d
    go_wp2_with fail
    generalize hW : World.setCell _ _ _ = wz
    have rz0 : wz.cell? ⟨w.heap.size + 1, 0, none⟩ = some (.int .i64 P1) := by { rw [← hW]; clear hW; go_simp }
    have rz1 : wz.cell? ⟨w.heap.size + 1, 1, none⟩ = some (.int .i64 P2) := by { rw [← hW]; clear hW; go_simp }
    have hbz : Below w.heap.size w wz := by { rw [← hW]; have := HB.out; (repeat' (first | (with_reducible exact Below.refl _ _) | (with_reducible assumption) | (with_reducible refine Below.drewN ?_ _) | (with_reducible refine Below.alloc ?_ ?_ _) | (with_reducible refine Below.drew ?_) | (with_reducible refine Below.setCell ?_ ?_ _) | (with_reducible refine Below.step (by assumption) ?_ ?_) | (with_reducible exact And.left (by assumption)) | go_size)) }
    clear hW
    exact bodyPost_ret (v := .tuple #[.agg #[.int .i64 P1, .int .i64 P2], .int .i64 0]) (by simp [results, Tryz.results34, go_sem, rz0, rz1]) rfl ⟨rfl, hbz⟩
  · rw [if_neg h0, if_neg h0]
    have hE1 : (E != 0) = true := by simpa using h0
    clear HR h0
    go_enter Tryz.func34, Tryz.ntmps34
    go_wp2_with fail
    generalize hW : World.alloc _ _ = w5
    have hb5 : Below w.heap.size w w5 := by rw [← hW]; (repeat' (first | (with_reducible exact Below.refl _ _) | (with_reducible assumption) | (with_reducible refine Below.drewN ?_ _) | (with_reducible refine Below.alloc ?_ ?_ _) | (with_reducible refine Below.drew ?_) | (with_reducible refine Below.setCell ?_ ?_ _) | (with_reducible refine Below.step (by assumption) ?_ ?_) | (with_reducible exact And.left (by assumption)) | go_size))
    have q0 : w5.cell? ⟨w.heap.size, 0, none⟩ = some (.slice a n c) := by { rw [← hW]; clear hW; go_simp }
    have z0 : w5.cell? ⟨w.heap.size + 1, 0, none⟩ = some (.int .i64 0) := by { rw [← hW]; clear hW; go_simp }
    have z1 : w5.cell? ⟨w.heap.size + 1, 1, none⟩ = some (.int .i64 0) := by { rw [← hW]; clear hW; go_simp }
    have f0 : w5.frozen? ⟨w.heap.size + 1, 0, none⟩ = false := by { rw [← hW]; clear hW; go_simp }
    have f1 : w5.frozen? ⟨w.heap.size + 1, 1, none⟩ = false := by { rw [← hW]; clear hW; go_simp }
    have l1 : w.heap.size + 1 < w5.heap.size := by { rw [← hW]; clear hW; simp }
    have HB := Lib.hid hb5
    clear hW hb5
    refine (HN.out _ HB.out).mono ?_
    rintro e6 w6 ⟨rfl, hb6⟩
    have HB := Lib.hid (HB.out.trans (hb6.mono HB.out.size))
    have h16 : Below w5.heap.size w5 w6 := hb6
    go_wp2_with fail
    refine (isFrequency_any _ _).mono ?_
    rintro e7 w7 ⟨rfl, rfl⟩
    go_wp2_with fail
    refine (d_unless_any _ _ _).mono ?_
    rintro e8 w8 ⟨rfl, rfl⟩
    go_wp2_with fail
    refine (d_first2 _ _ _ _ _ _ (by rfl) (by simp)).mono ?_
    rintro e9 w9 ⟨rfl, hw9⟩
    have hb9 : Below w5.heap.size w5 w9 := h16.trans ((show Below w6.heap.size w6 w9 by rw [← hw9]; (repeat' (first | (with_reducible exact Below.refl _ _) | (with_reducible assumption) | (with_reducible refine Below.drewN ?_ _) | (with_reducible refine Below.alloc ?_ ?_ _) | (with_reducible refine Below.drew ?_) | (with_reducible refine Below.setCell ?_ ?_ _) | (with_reducible refine Below.step (by assumption) ?_ ?_) | (with_reducible exact And.left (by assumption)) | go_size))).mono h16.size)
    rw [← HE.out]
    have hz9 := hb9.size
    have q0d : w9.cell? ⟨w.heap.size, 0, none⟩ = some (.slice a n c) := by { rw [cellB hb9 _ _ (by first | (simp; done) | (simp; omega) | omega)]; all_goals (first | assumption | go_simp) }; have z0d : w9.cell? ⟨w.heap.size + 1, 0, none⟩ = some (.int .i64 0) := by { rw [cellB hb9 _ _ (by first | (simp; done) | (simp; omega) | omega)]; all_goals (first | assumption | go_simp) }; have z1d : w9.cell? ⟨w.heap.size + 1, 1, none⟩ = some (.int .i64 0) := by { rw [cellB hb9 _ _ (by first | (simp; done) | (simp; omega) | omega)]; all_goals (first | assumption | go_simp) }; have f0d : w9.frozen? ⟨w.heap.size + 1, 0, none⟩ = false := by { rw [frozenB hb9 _ _ (by first | (simp; done) | (simp; omega) | omega)]; all_goals (first | assumption | go_simp) }; have f1d : w9.frozen? ⟨w.heap.size + 1, 1, none⟩ = false := by { rw [frozenB hb9 _ _ (by first | (simp; done) | (simp; omega) | omega)]; all_goals (first | assumption | go_simp) }
    have l1d : w.heap.size + 1 < w9.heap.size := by omega
    have l0d : w.heap.size < w9.heap.size := by omega
    have HB := Lib.hid (show Below w.heap.size w w9 from HB.out.trans ((show Below w6.heap.size w6 w9 by rw [← hw9]; (repeat' (first | (with_reducible exact Below.refl _ _) | (with_reducible assumption) | (with_reducible refine Below.drewN ?_ _) | (with_reducible refine Below.alloc ?_ ?_ _) | (with_reducible refine Below.drew ?_) | (with_reducible refine Below.setCell ?_ ?_ _) | (with_reducible refine Below.step (by assumption) ?_ ?_) | (with_reducible exact And.left (by assumption)) | go_size))).mono HB.out.size))
    clear hb6 h16 hw9 hb9 hz9 q0 z0 z1 f0 f1 l1
    go_wp2_with fail
    generalize hW : World.setCell _ _ _ = wz
    have rz0 : wz.cell? ⟨w.heap.size + 1, 0, none⟩ = some (.int .i64 0) := by { rw [← hW]; clear hW; go_simp }
    have rz1 : wz.cell? ⟨w.heap.size + 1, 1, none⟩ = some (.int .i64 0) := by { rw [← hW]; clear hW; go_simp }
    have hbz : Below w.heap.size w wz := by { rw [← hW]; have := HB.out; (repeat' (first | (with_reducible exact Below.refl _ _) | (with_reducible assumption) | (with_reducible refine Below.drewN ?_ _) | (with_reducible refine Below.alloc ?_ ?_ _) | (with_reducible refine Below.drew ?_) | (with_reducible refine Below.setCell ?_ ?_ _) | (with_reducible refine Below.step (by assumption) ?_ ?_) | (with_reducible exact And.left (by assumption)) | go_size)) }
    clear hW
    exact bodyPost_ret (v := .tuple #[.agg #[.int .i64 0, .int .i64 0], .int .i64 E]) (by simp [results, Tryz.results34, go_sem, rz0, rz1]) rfl ⟨rfl, hbz⟩
set_option maxHeartbeats 1000000 in
set_option maxRecDepth 100000 in
theorem responsesOf_any (s : List T3) (fs : List Int) (a af : Option Addr) (n c m cm : Nat) (w : World) (hs : T3R w a n s) (hf : IntsR w af m fs) :
    Calls Tryz.prog 35 #[.agg #[.slice a n c], .slice af m cm] w fun e' w' => ∃ a' k' c', e' = .returned (.tuple #[.slice a' k' c', .int .i64 (rsoE s fs)]) ∧ Below w.heap.size w w' ∧ PairsR w' a' k' (if rsoE s fs = 0 then fs.map (gPr s) else []) := by
  have HN := Lib.hid (fun (W : World) (hb : Below w.heap.size w W) => networkErr_any s a n c W (hs.below hb))
  have HFE := Lib.hid (fun (W : World) (hb : Below w.heap.size w W) => frequenciesErr_any fs af m cm W (hf.below hb))
  have HR := Lib.hid (fun (h : rsoE s fs = 0) (W : World) (hb : Below w.heap.size w W) => show Calls Tryz.prog 108 #[.agg #[.slice a n c], .slice af m cm] W fun e' w' => ∃ a' c', e' = .returned (.slice a' m c') ∧ Below W.heap.size W w' ∧ PairsR w' a' m (fs.map (gPr s)) by
    obtain ⟨h1, h2⟩ := firstErr_cons.1 h
    obtain ⟨h2, _⟩ := firstErr_cons.1 h2
    have k1 := netE_ok h1
    have k2 : fs.length ≤ 8 ∧ ∀ f ∈ fs, 0 ≤ f ∧ f ≤ 6 := by
      unfold freE at h2
      obtain ⟨g1, g2⟩ := firstErr_cons.1 h2
      obtain ⟨g3, _⟩ := firstErr_cons.1 g2
      rw [unl_eq_zero (by omega)] at g1 g3
      rw [decide_eq_true_eq] at g1
      rw [Bool.not_eq_true', List.any_eq_false] at g3
      exact ⟨by omega, fun f hf => by have := g3 f hf; simpa [wi_iff] using this⟩
    refine (responses_any s fs a af n c m cm W (hs.below hb) (hf.below hb) (by have := hs.len; omega) k1.2.2 k2.2 (by have := hf.len; omega)).mono ?_
    rintro e W' ⟨a', c', h1, _, h2, h3, _⟩
    exact ⟨a', c', h1, h2, h3⟩)
  have HE := Lib.hid (show rsoE s fs = firstErr [(netE s).2, freE fs] from rfl)
  clear hs hf
  generalize rsoE s fs = E at *
  generalize fs.map (gPr s) = P at *
  generalize (netE s).2 = e1 at *
  generalize freE fs = e2 at *
  by_cases h0 : E = 0
  · rw [if_pos h0]
    have HRR := Lib.hid (HR.out h0)
    subst h0
    clear HR
    go_enter Tryz.func35, Tryz.ntmps35
    go_wp2_with fail
    generalize hW : World.alloc _ _ = w5
    have hb5 : Below w.heap.size w w5 := by rw [← hW]; (repeat' (first | (with_reducible exact Below.refl _ _) | (with_reducible assumption) | (with_reducible refine Below.drewN ?_ _) | (with_reducible refine Below.alloc ?_ ?_ _) | (with_reducible refine Below.drew ?_) | (with_reducible refine Below.setCell ?_ ?_ _) | (with_reducible refine Below.step (by assumption) ?_ ?_) | (with_reducible exact And.left (by assumption)) | go_size))
    have q0 : w5.cell? ⟨w.heap.size, 0, none⟩ = some (.slice a n c) := by { rw [← hW]; clear hW; go_simp }
    have l1 : w.heap.size < w5.heap.size := by { rw [← hW]; clear hW; simp }
    have HB := Lib.hid hb5
    clear hW hb5
    refine (HN.out _ HB.out).mono ?_
    rintro e6 w6 ⟨rfl, hb6⟩
    have HB := Lib.hid (HB.out.trans (hb6.mono HB.out.size))
    go_wp2_with fail
    refine (HFE.out _ HB.out).mono ?_
    rintro e7 w7 ⟨rfl, hb7⟩
    have h57 : Below w5.heap.size w5 w7 := hb6.trans (hb7.mono hb6.size)
    have HB := Lib.hid (HB.out.trans (hb7.mono HB.out.size))
    go_wp2_with fail
    refine (d_first2 _ _ _ _ _ _ (by rfl) (by simp)).mono ?_
    rintro e9 w9 ⟨rfl, hw9⟩
    have hb9 : Below w5.heap.size w5 w9 := h57.trans ((show Below w7.heap.size w7 w9 by rw [← hw9]; (repeat' (first | (with_reducible exact Below.refl _ _) | (with_reducible assumption) | (with_reducible refine Below.drewN ?_ _) | (with_reducible refine Below.alloc ?_ ?_ _) | (with_reducible refine Below.drew ?_) | (with_reducible refine Below.setCell ?_ ?_ _) | (with_reducible refine Below.step (by assumption) ?_ ?_) | (with_reducible exact And.left (by assumption)) | go_size))).mono h57.size)
    rw [← HE.out]
    have hz9 := hb9.size
    have q0d : w9.cell? ⟨w.heap.size, 0, none⟩ = some (.slice a n c) := by { rw [cellB hb9 _ _ (by first | (simp; done) | (simp; omega) | omega)]; all_goals (first | assumption | go_simp) }
    have l0d : w.heap.size < w9.heap.size := by omega
    have HB := Lib.hid (show Below w.heap.size w w9 from HB.out.trans ((show Below w7.heap.size w7 w9 by rw [← hw9]; (repeat' (first | (with_reducible exact Below.refl _ _) | (with_reducible assumption) | (with_reducible refine Below.drewN ?_ _) | (with_reducible refine Below.alloc ?_ ?_ _) | (with_reducible refine Below.drew ?_) | (with_reducible refine Below.setCell ?_ ?_ _) | (with_reducible refine Below.step (by assumption) ?_ ?_) | (with_reducible exact And.left (by assumption)) | go_size))).mono HB.out.size))
    clear hb6 hb7 h57 hw9 hb9 hz9 q0 l1
    go_wp2_with fail
    refine (HRR.out _ HB.out).mono ?_
    rintro e10 wa ⟨a', c', rfl, hba, hpa⟩
    have HB := Lib.hid (HB.out.trans (hba.mono HB.out.size))
    have HP := Lib.hid hpa
    clear hba hpa
    go_wp2
    go_ret2
    exact ⟨a', m, c', rfl, HB.out, HP.out⟩
  · rw [if_neg h0]
    have hE1 : (E != 0) = true := by simpa using h0
    clear HR h0
    go_enter Tryz.func35, Tryz.ntmps35
    go_wp2_with fail
    generalize hW : World.alloc _ _ = w5
    have hb5 : Below w.heap.size w w5 := by rw [← hW]; (repeat' (first | (with_reducible exact Below.refl _ _) | (with_reducible assumption) | (with_reducible refine Below.drewN ?_ _) | (with_reducible refine Below.alloc ?_ ?_ _) | (with_reducible refine Below.drew ?_) | (with_reducible refine Below.setCell ?_ ?_ _) | (with_reducible refine Below.step (by assumption) ?_ ?_) | (with_reducible exact And.left (by assumption)) | go_size))
    have q0 : w5.cell? ⟨w.heap.size, 0, none⟩ = some (.slice a n c) := by { rw [← hW]; clear hW; go_simp }
    have l1 : w.heap.size < w5.heap.size := by { rw [← hW]; clear hW; simp }
    have HB := Lib.hid hb5
    clear hW hb5
    refine (HN.out _ HB.out).mono ?_
    rintro e6 w6 ⟨rfl, hb6⟩
    have HB := Lib.hid (HB.out.trans (hb6.mono HB.out.size))
    go_wp2_with fail
    refine (HFE.out _ HB.out).mono ?_
    rintro e7 w7 ⟨rfl, hb7⟩
    have h57 : Below w5.heap.size w5 w7 := hb6.trans (hb7.mono hb6.size)
    have HB := Lib.hid (HB.out.trans (hb7.mono HB.out.size))
    go_wp2_with fail
    refine (d_first2 _ _ _ _ _ _ (by rfl) (by simp)).mono ?_
    rintro e9 w9 ⟨rfl, hw9⟩
    have hb9 : Below w5.heap.size w5 w9 := h57.trans ((show Below w7.heap.size w7 w9 by rw [← hw9]; (repeat' (first | (with_reducible exact Below.refl _ _) | (with_reducible assumption) | (with_reducible refine Below.drewN ?_ _) | (with_reducible refine Below.alloc ?_ ?_ _) | (with_reducible refine Below.drew ?_) | (with_reducible refine Below.setCell ?_ ?_ _) | (with_reducible refine Below.step (by assumption) ?_ ?_) | (with_reducible exact And.left (by assumption)) | go_size))).mono h57.size)
    rw [← HE.out]
    have hz9 := hb9.size
    have q0d : w9.cell? ⟨w.heap.size, 0, none⟩ = some (.slice a n c) := by { rw [cellB hb9 _ _ (by first | (simp; done) | (simp; omega) | omega)]; all_goals (first | assumption | go_simp) }
    have l0d : w.heap.size < w9.heap.size := by omega
    have HB := Lib.hid (show Below w.heap.size w w9 from HB.out.trans ((show Below w7.heap.size w7 w9 by rw [← hw9]; (repeat' (first | (with_reducible exact Below.refl _ _) | (with_reducible assumption) | (with_reducible refine Below.drewN ?_ _) | (with_reducible refine Below.alloc ?_ ?_ _) | (with_reducible refine Below.drew ?_) | (with_reducible refine Below.setCell ?_ ?_ _) | (with_reducible refine Below.step (by assumption) ?_ ?_) | (with_reducible exact And.left (by assumption)) | go_size))).mono HB.out.size))
    clear hb6 hb7 h57 hw9 hb9 hz9 q0 l1
    go_wp2
    go_ret2
    exact ⟨none, 0, 0, rfl, HB.out, PairsR.nil _ _⟩
end Go.Proofs.YtkphbibonagkfaaGreat
