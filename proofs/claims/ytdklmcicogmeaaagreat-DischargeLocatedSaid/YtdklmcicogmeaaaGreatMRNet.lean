import Derived.Test.YtdklmcicogmeaaaGreatMDDef
import Derived.Test.YtdklmcicogmeaaaGreatMDEqG
import Derived.Test.YtdklmcicogmeaaaGreatMDSubs
import Derived.Test.YtdklmcicogmeaaaGreatMPlainInit
/- The reference of networks: copies, which are valid, equality. -/
namespace Go.Proofs.YtdklmcicogmeaaaGreat
open Go.RowKit
set_option linter.unusedVariables false

set_option maxRecDepth 100000 in
theorem copyNetwork_any (l : List T3) (a : Option Addr) (n c : Nat) (w : World) (h : T3R w a n l) (hn : n ≤ 100000) :
    Calls Tryz.prog 38 #[.agg #[.slice a n c]] w fun e' w' => ∃ a' c', e' = .returned (.agg #[.slice a' n c']) ∧ Below w.heap.size w w' ∧ w'.ownsRow w.heap.size 178 3 (.slice a' n c') n (ecells e3 l) := by
  have H := Lib.hid h
  clear h
  have HOA := Lib.hid (show (((w.alloc (Obj.cells #[.slice a n c] 81)).alloc (Obj.cells #[.slice none 0 0] 81)).alloc (Obj.cells #[] 178)).ownsRow (w.heap.size + 1 + 1) 178 3 (.slice (some ⟨w.heap.size + 1 + 1, 0, none⟩) 0 0) 0 [] by
    have := World.ownsRow_made (base := w.heap.size + 1 + 1) (e := 178) (size := 3) ((w.alloc (Obj.cells #[.slice a n c] 81)).alloc (Obj.cells #[.slice none 0 0] 81)) #[] 0 (by simp) (by simp [maxLen]) rfl
    simpa using this)
  go_enter Tryz.func38, Tryz.ntmps38
  go_wp2_with (at_builtin; refine wpList_append_sl _ rfl _ _ 79 rfl (w.heap.size + 1 + 1) 178 _ 3 24 Tryz.underlying79 infoSec rfl (by omega) (.slice (some ⟨w.heap.size + 1 + 1, 0, none⟩) 0 0) 0 [] rfl HOA.out _ n c (ecells e3 l) rfl (ER.below H.out (by (repeat' (first | (with_reducible exact Below.refl _ _) | (with_reducible assumption) | (with_reducible refine Below.drewN ?_ _) | (with_reducible refine Below.alloc ?_ ?_ _) | (with_reducible refine Below.drew ?_) | (with_reducible refine Below.setCell ?_ ?_ _) | (with_reducible refine Below.step (by assumption) ?_ ?_) | (with_reducible exact And.left (by assumption)) | go_size)))).2 (ecells_ones e3_one l) (by omega) (by omega) (by rw [World.size_alloc, World.size_alloc, World.size_alloc]; omega) ?_)
  intro v2 w2 hown2 _ hb2
  obtain ⟨a', c', rfl, _, _⟩ := owns_slice hown2
  have hbw : Below (w.heap.size + 1 + 1) ((w.alloc (Obj.cells #[.slice a n c] 81)).alloc (Obj.cells #[.slice none 0 0] 81)) w2 := Below.trans (by (repeat' (first | (with_reducible exact Below.refl _ _) | (with_reducible assumption) | (with_reducible refine Below.drewN ?_ _) | (with_reducible refine Below.alloc ?_ ?_ _) | (with_reducible refine Below.drew ?_) | (with_reducible refine Below.setCell ?_ ?_ _) | (with_reducible refine Below.step (by assumption) ?_ ?_) | (with_reducible exact And.left (by assumption)) | go_size))) hb2
  have z0 : w2.cell? ⟨w.heap.size + 1, 0, none⟩ = some (.slice none 0 0) := by rw [cellB hbw _ _ (by omega)]; go_simp
  have f0 : w2.frozen? ⟨w.heap.size + 1, 0, none⟩ = false := by rw [frozenB hbw _ _ (by omega)]; go_simp
  have hz2 := hbw.size
  simp only [World.size_alloc] at hz2
  have l1 : w.heap.size + 1 < w2.heap.size := by omega
  have HB := Lib.hid (show Below w.heap.size w w2 from Below.trans (by (repeat' (first | (with_reducible exact Below.refl _ _) | (with_reducible assumption) | (with_reducible refine Below.drewN ?_ _) | (with_reducible refine Below.alloc ?_ ?_ _) | (with_reducible refine Below.drew ?_) | (with_reducible refine Below.setCell ?_ ?_ _) | (with_reducible refine Below.step (by assumption) ?_ ?_) | (with_reducible exact And.left (by assumption)) | go_size))) (hbw.mono (by omega)))
  have HO := Lib.hid (show w2.ownsRow (w.heap.size + 1 + 1) 178 3 (.slice a' n c') n (ecells e3 l) by simpa using hown2)
  clear hown2 hb2 hbw hz2
  go_wp2_with fail
  generalize hW : World.setCell _ _ _ = w3
  have r0 : w3.cell? ⟨w.heap.size + 1, 0, none⟩ = some (.slice a' n c') := by { rw [← hW]; clear hW; go_simp }
  have hb3 : Below w.heap.size w w3 := by { rw [← hW]; have := HB.out; (repeat' (first | (with_reducible exact Below.refl _ _) | (with_reducible assumption) | (with_reducible refine Below.drewN ?_ _) | (with_reducible refine Below.alloc ?_ ?_ _) | (with_reducible refine Below.drew ?_) | (with_reducible refine Below.setCell ?_ ?_ _) | (with_reducible refine Below.step (by assumption) ?_ ?_) | (with_reducible exact And.left (by assumption)) | go_size)) }
  have ho3 : w3.ownsRow (w.heap.size + 1 + 1) 178 3 (.slice a' n c') n (ecells e3 l) := by { rw [← hW]; have := HO.out; (repeat' (first | (with_reducible assumption) | ((with_reducible refine owns_lit ?_ ?_ ?_ ?_) <;> first | (simp; done) | (simp; omega) | omega) | (with_reducible refine World.ownsRow.alloc ?_ _) | (with_reducible refine World.ownsRow.drew ?_) | (with_reducible refine owns_drewN ?_ _) | (with_reducible refine ownsRow_setCell_below ?_ ?_ _) | (simp; done) | (simp; omega) | omega)) }
  clear hW
  exact bodyPost_ret (v := .agg #[.slice a' n c']) (by simp [results, Tryz.results38, go_sem, r0]) rfl ⟨a', c', rfl, hb3, owns_mono ho3 (by omega)⟩
set_option maxRecDepth 100000 in
theorem copyDeformations_any (l : List T3) (a : Option Addr) (n c : Nat) (w : World) (h : T3R w a n l) (hn : n ≤ 100000) :
    Calls Tryz.prog 45 #[.slice a n c] w fun e' w' => ∃ a' c', e' = .returned (.slice a' n c') ∧ Below w.heap.size w w' ∧ T3R w' a' n l := by
  have H := Lib.hid h
  clear h
  go_enter Tryz.func45, Tryz.ntmps45
  go_wp2_with (at_builtin; refine wpList_append_sl _ rfl _ _ 82 rfl w.heap.size 104 _ 3 24 Tryz.underlying82 infoDef rfl (by omega) _ 0 _ rfl (World.ownsRow_made w #[] 0 (by omega) (by simp [maxLen]) rfl) _ n c (ecells e3 l) rfl (ER.below H.out (by (repeat' (first | (with_reducible exact Below.refl _ _) | (with_reducible assumption) | (with_reducible refine Below.drewN ?_ _) | (with_reducible refine Below.alloc ?_ ?_ _) | (with_reducible refine Below.drew ?_) | (with_reducible refine Below.setCell ?_ ?_ _) | (with_reducible refine Below.step (by assumption) ?_ ?_) | (with_reducible exact And.left (by assumption)) | go_size)))).2 (ecells_ones e3_one l) (by omega) (by omega) (by simp) ?_)
  intro v2 w2 hown2 _ hb2
  obtain ⟨a', c', rfl, _, _⟩ := owns_slice hown2
  have HO := Lib.hid hown2
  have HB := Lib.hid hb2
  clear hown2 hb2
  go_wp2
  go_ret
  exact ⟨a', c', rfl, Below.trans (by (repeat' (first | (with_reducible exact Below.refl _ _) | (with_reducible assumption) | (with_reducible refine Below.drewN ?_ _) | (with_reducible refine Below.alloc ?_ ?_ _) | (with_reducible refine Below.drew ?_) | (with_reducible refine Below.setCell ?_ ?_ _) | (with_reducible refine Below.step (by assumption) ?_ ?_) | (with_reducible exact And.left (by assumption)) | go_size))) HB.out, ER.of_owns H.out.1 (by simpa using HO.out)⟩
theorem netE_cases (l : List T3) : netE l = if (l.length : Int) = 0 then (0, 10) else if 3 < (l.length : Int) then (0, 8) else if 0 ≤ idxFrom (fun p => !secB p) l 0 then (idxFrom (fun p => !secB p) l 0, 2) else (0, 0) := by
  unfold netE netH
  by_cases h0 : (l.length : Int) = 0
  · have : ¬ 0 < l.length := by omega
    rw [if_pos h0, decide_eq_false this]
    rfl
  · have h1 : 0 < l.length := by omega
    rw [if_neg h0, decide_eq_true h1]
    by_cases h3 : 3 < (l.length : Int)
    · have : ¬ (l.length : Int) ≤ 3 := by omega
      rw [if_pos h3, decide_eq_false this]
      rfl
    · have : (l.length : Int) ≤ 3 := by omega
      rw [if_neg h3, decide_eq_true this]
      rfl
set_option maxHeartbeats 1000000 in
set_option maxRecDepth 100000 in
theorem rCheckNetwork_any (l : List T3) (a : Option Addr) (n c : Nat) (w : World) (hl : T3R w a n l) :
    Calls Tryz.prog 94 #[.agg #[.slice a n c]] w fun e' w' => e' = .returned (.tuple #[.int .i64 (netE l).1, .int .i64 (netE l).2]) ∧ Below w.heap.size w w' := by
  have hn := hl.small
  have HL := Lib.hid hl
  have HLN := Lib.hid hl.len
  have hE := netE_cases l
  rw [hl.len] at hE
  obtain ⟨E, hEE⟩ : ∃ E, E = netE l := ⟨_, rfl⟩
  rw [← hEE] at hE ⊢
  clear hl hEE
  obtain ⟨I, hI⟩ : ∃ I, I = idxFrom (fun p => !secB p) l 0 := ⟨_, rfl⟩
  rw [← hI] at hE
  have HI := Lib.hid hI
  clear hI
  by_cases h0 : (n : Int) = 0
  · rw [if_pos h0] at hE
    subst hE
    have e0 : ((n : Int) == 0) = true := by simpa using h0
    clear h0
    go_enter Tryz.func94, Tryz.ntmps94
    go_wp2
    go_ret2
    exact ⟨rfl, by (repeat' (first | (with_reducible exact Below.refl _ _) | (with_reducible assumption) | (with_reducible refine Below.drewN ?_ _) | (with_reducible refine Below.alloc ?_ ?_ _) | (with_reducible refine Below.drew ?_) | (with_reducible refine Below.setCell ?_ ?_ _) | (with_reducible refine Below.step (by assumption) ?_ ?_) | (with_reducible exact And.left (by assumption)) | go_size))⟩
  rw [if_neg h0] at hE
  have e0 : ((n : Int) == 0) = false := by simpa using h0
  by_cases h3 : 3 < (n : Int)
  · rw [if_pos h3] at hE
    subst hE
    clear h0
    go_enter Tryz.func94, Tryz.ntmps94
    go_wp2
    go_ret2
    exact ⟨rfl, by (repeat' (first | (with_reducible exact Below.refl _ _) | (with_reducible assumption) | (with_reducible refine Below.drewN ?_ _) | (with_reducible refine Below.alloc ?_ ?_ _) | (with_reducible refine Below.drew ?_) | (with_reducible refine Below.setCell ?_ ?_ _) | (with_reducible refine Below.step (by assumption) ?_ ?_) | (with_reducible exact And.left (by assumption)) | go_size))⟩
  rw [if_neg h3] at hE
  have HE := Lib.hid hE
  have e3 : decide (3 < (n : Int)) = false := decide_eq_false h3
  clear h0 hE
  go_enter Tryz.func94, Tryz.ntmps94
  go_wp2_with fail
  generalize hW : World.alloc _ _ = w5
  have hb5 : Below w.heap.size w w5 := by rw [← hW]; (repeat' (first | (with_reducible exact Below.refl _ _) | (with_reducible assumption) | (with_reducible refine Below.drewN ?_ _) | (with_reducible refine Below.alloc ?_ ?_ _) | (with_reducible refine Below.drew ?_) | (with_reducible refine Below.setCell ?_ ?_ _) | (with_reducible refine Below.step (by assumption) ?_ ?_) | (with_reducible exact And.left (by assumption)) | go_size))
  have q0 : w5.cell? ⟨w.heap.size, 0, none⟩ = some (.slice a n c) := by { rw [← hW]; clear hW; go_simp }
  have z5 : w.heap.size < w5.heap.size := by { rw [← hW]; clear hW; simp }
  have HB5 := Lib.hid hb5
  clear hW hb5
  go_loopw [4] (fun i wr => ∃ k : Nat, i = .int .i64 k ∧ k ≤ n ∧ Hid (idxFrom (fun p => !secB p) (l.drop k) k = I) ∧ Hid (Below w5.heap.size w5 wr)) (fun i _ => n - (intOf i).toNat)
  case atStart => exact ⟨0, rfl, Nat.zero_le _, Lib.hid (by rw [HI.out]; rfl), Lib.hid (Below.refl _ _)⟩
  case round =>
    obtain ⟨k, rfl, hk, hF, hB⟩ := hrel
    have i0 : (0 : Int) ≤ (k : Int) := by omega
    have hBx := hB.out
    have hzr := hBx.size
    have q0r : wr.cell? ⟨w.heap.size, 0, none⟩ = some (.slice a n c) := by { rw [cellB hBx _ _ (by first | (simp; done) | (simp; omega) | omega)]; all_goals (first | assumption | go_simp) }; have zr : w.heap.size < wr.heap.size := by { omega }
    rcases Nat.lt_or_ge k n with hlt | hge
    · have i1 : (k : Int) < (n : Int) := by omega
      obtain ⟨b, o, rfl, hb, hc⟩ := (HL.out.below (HB5.out.trans (hBx.mono HB5.out.size))).addr (by omega)
      obtain ⟨⟨x, y, z⟩, hx⟩ := ER.get HL.out hlt
      obtain ⟨p0, p1, p2⟩ := hc k _ hx
      have hF' := hF.out
      rw [drop_cons' hx, idxFrom] at hF'
      have HX := Lib.hid (show secB ⟨x, y, z⟩ = ((wi x 0 5 && wi y 0 3) && wi z 0 3) by rfl)
      have HB1 := Lib.hid (fun w' => bwithin_any x 0 5 w')
      have HB2 := Lib.hid (fun w' => bwithin_any y 0 3 w')
      have HB3 := Lib.hid (fun w' => bwithin_any z 0 3 w')
      simp only at p0 p1 p2
      rw [HX.out] at hF'
      generalize wi x 0 5 = b1 at *
      generalize wi y 0 3 = b2 at *
      generalize wi z 0 3 = b3 at *
      have HF := Lib.hid hF'
      clear hF' hF hx hc HX
      go_wp2_with fail
      generalize hW : World.alloc _ _ = ws
      have hbs : Below wr.heap.size wr ws := by rw [← hW]; (repeat' (first | (with_reducible exact Below.refl _ _) | (with_reducible assumption) | (with_reducible refine Below.drewN ?_ _) | (with_reducible refine Below.alloc ?_ ?_ _) | (with_reducible refine Below.drew ?_) | (with_reducible refine Below.setCell ?_ ?_ _) | (with_reducible refine Below.step (by assumption) ?_ ?_) | (with_reducible exact And.left (by assumption)) | go_size))
      have s0 : ws.cell? ⟨wr.heap.size, 0, none⟩ = some (.int .i64 x) := by { rw [← hW]; clear hW; go_simp }
      have s1 : ws.cell? ⟨wr.heap.size, 1, none⟩ = some (.int .i64 y) := by { rw [← hW]; clear hW; go_simp }
      have s2 : ws.cell? ⟨wr.heap.size, 2, none⟩ = some (.int .i64 z) := by { rw [← hW]; clear hW; go_simp }
      have zs : wr.heap.size < ws.heap.size := by { rw [← hW]; clear hW; simp }
      have HBs := Lib.hid (hBx.trans (hbs.mono hBx.size))
      have HBw := Lib.hid (HB5.out.trans (HBs.out.mono HB5.out.size))
      obtain ⟨X, hX⟩ : ∃ X, X = wr.heap.size := ⟨_, rfl⟩
      rw [← hX] at s0 s1 s2 zs ⊢
      clear hW hbs hBx hX p0 p1 p2 q0r hzr zr hb
      refine (HB1.out _).mono ?_
      rintro e6 w6 ⟨rfl, rfl⟩
      cases b1
      · have hF := HF.out
        simp at hF
        have hE := HE.out
        rw [← hF, if_pos i0] at hE
        subst hE
        clear HF HE
        go_wp2
        go_ret2
        exact ⟨rfl, HBw.out⟩
      go_wp2_with fail
      refine (HB2.out _).mono ?_
      rintro e7 w7 ⟨rfl, rfl⟩
      cases b2
      · have hF := HF.out
        simp at hF
        have hE := HE.out
        rw [← hF, if_pos i0] at hE
        subst hE
        clear HF HE
        go_wp2
        go_ret2
        exact ⟨rfl, HBw.out⟩
      go_wp2_with fail
      refine (HB3.out _).mono ?_
      rintro e8 w8 ⟨rfl, rfl⟩
      cases b3
      · have hF := HF.out
        simp at hF
        have hE := HE.out
        rw [← hF, if_pos i0] at hE
        subst hE
        clear HF HE
        go_wp2
        go_ret2
        exact ⟨rfl, HBw.out⟩
      have hF := HF.out
      simp at hF
      have HF2 := Lib.hid hF
      clear hF HF
      go_wp2
      go_roundw
      case rel => exact ⟨k + 1, by go_num, by omega, HF2, HBs⟩
      case measure => simp [intOf]; omega
    · obtain rfl : k = n := by omega
      have hF := hF.out
      rw [drop_end l k (by rw [HLN.out]; exact Nat.le_refl _), idxFrom] at hF
      have hE := HE.out
      rw [← hF, if_neg (by decide)] at hE
      subst hE
      clear HE
      go_wp2
      go_ret2
      exact ⟨rfl, HB5.out.trans (hB.out.mono HB5.out.size)⟩
set_option maxRecDepth 100000 in
theorem rNetworkErr_any (l : List T3) (a : Option Addr) (n c : Nat) (w : World) (hl : T3R w a n l) :
    Calls Tryz.prog 34 #[.agg #[.slice a n c]] w fun e' w' => e' = .returned (.int .i64 (netE l).2) ∧ Below w.heap.size w w' := by
  have HC := Lib.hid (fun (w' : World) (hb : Below w.heap.size w w') => rCheckNetwork_any l a n c w' (hl.below hb))
  generalize netE l = E at *
  obtain ⟨k, e⟩ := E
  simp only at HC ⊢
  clear hl
  go_enter Tryz.func34, Tryz.ntmps34
  go_wp2_with fail
  refine (HC.out _ (by (repeat' (first | (with_reducible exact Below.refl _ _) | (with_reducible assumption) | (with_reducible refine Below.drewN ?_ _) | (with_reducible refine Below.alloc ?_ ?_ _) | (with_reducible refine Below.drew ?_) | (with_reducible refine Below.setCell ?_ ?_ _) | (with_reducible refine Below.step (by assumption) ?_ ?_) | (with_reducible exact And.left (by assumption)) | go_size)))).mono ?_
  rintro e5 w5 ⟨rfl, hb5⟩
  have HB := Lib.hid (show Below w.heap.size w w5 from Below.trans (by (repeat' (first | (with_reducible exact Below.refl _ _) | (with_reducible assumption) | (with_reducible refine Below.drewN ?_ _) | (with_reducible refine Below.alloc ?_ ?_ _) | (with_reducible refine Below.drew ?_) | (with_reducible refine Below.setCell ?_ ?_ _) | (with_reducible refine Below.step (by assumption) ?_ ?_) | (with_reducible exact And.left (by assumption)) | go_size))) (hb5.mono (by simp)))
  clear hb5
  go_wp2
  go_ret
  exact ⟨rfl, HB.out⟩
end Go.Proofs.YtdklmcicogmeaaaGreat

/- The reference of responses: whole complex numbers, a response. -/
namespace Go.Proofs.YtdklmcicogmeaaaGreat
open Go.RowKit
set_option linter.unusedVariables false

theorem nG_bd {g : GI} {A : Nat} (h : nG g ≤ A) : (-(A : Int) ≤ g.re ∧ g.re ≤ A) ∧ -(A : Int) ≤ g.im ∧ g.im ≤ A := by
  unfold nG at h
  omega
/-- The voltage and the current before a section, from the end. -/
def cAt (w : Int) (l : List T3) (j : Nat) : GI × GI := ((l.drop j).map sOf).foldr (colStep w) (⟨1, 0⟩, ⟨0, 0⟩)
theorem cAt_step {w : Int} {l : List T3} {j : Nat} {p : T3} (h : l[j]? = some p) : cAt w l j = colStep w (sOf p) (cAt w l (j + 1)) := by
  unfold cAt
  rw [drop_cons' h]
  rfl
theorem cAt_end {w : Int} {l : List T3} {j : Nat} (h : l.length ≤ j) : cAt w l j = (⟨1, 0⟩, ⟨0, 0⟩) := by
  unfold cAt
  rw [List.drop_eq_nil_of_le h]
  rfl
theorem col_bd {w : Int} (hw : 0 ≤ w ∧ w ≤ 6) : ∀ (l : List Sec), (∀ s ∈ l, secOk s) → nG (l.foldr (colStep w) (⟨1, 0⟩, ⟨0, 0⟩)).1 + nG (l.foldr (colStep w) (⟨1, 0⟩, ⟨0, 0⟩)).2 ≤ 438 ^ l.length
  | [], _ => by simp [nG]
  | s :: r, h => by
    have ih := col_bd hw r (fun x hx => h x (by simp [hx]))
    simp only [List.foldr_cons, List.length_cons]
    generalize r.foldr (colStep w) (⟨1, 0⟩, ⟨0, 0⟩) = p at *
    have hz := z_bd hw (h s (by simp))
    have hy := y_bd hw (h s (by simp))
    unfold colStep
    have a1 := nG_mul (s.y w) p.1
    have a2 := nG_add p.2 ((s.y w).mul p.1)
    have a3 := nG_mul (s.z w) (p.2.add ((s.y w).mul p.1))
    have a4 := nG_add p.1 ((s.z w).mul (p.2.add ((s.y w).mul p.1)))
    have b1 := Nat.mul_le_mul_right (nG p.1) hy
    have b2 := Nat.mul_le_mul_right (nG (p.2.add ((s.y w).mul p.1))) hz
    have e : 438 ^ (r.length + 1) = 438 * 438 ^ r.length := by rw [Nat.pow_succ, Nat.mul_comm]
    rw [e]
    simp only
    omega
theorem cAt_bd {w : Int} {l : List T3} (hw : 0 ≤ w ∧ w ≤ 6) (hs : ∀ p ∈ l, secB p = true) (hl : l.length ≤ 3) (j : Nat) : nG (cAt w l j).1 + nG (cAt w l j).2 ≤ 84027672 := by
  have h := col_bd hw ((l.drop j).map sOf) (fun s hs' => by
    obtain ⟨p, hp, rfl⟩ := List.mem_map.1 hs'
    exact sec_ok (hs p (List.mem_of_mem_drop hp)))
  have h2 : ((l.drop j).map sOf).length ≤ 3 := by simp; omega
  have h3 : 438 ^ ((l.drop j).map sOf).length ≤ 438 ^ 3 := Nat.pow_le_pow_right (by omega) h2
  have h4 : 438 ^ 3 = 84027672 := by decide
  unfold cAt
  omega
theorem cAt_resp (w : Int) (l : List T3) : (cAt w l 0).1 = respG w (l.map sOf) := by
  rw [resp_col]
  rfl
end Go.Proofs.YtdklmcicogmeaaaGreat
