import Derived.Test.YtkphbibonagkfaaGreatDExp
import Derived.Test.YtkphbibonagkfaaGreatMDDef
import Derived.Test.YtkphbibonagkfaaGreatMSmall
import Derived.Test.YtkphbibonagkfaaGreatRLate
/- The reference of networks: copies, which are valid, equality. -/
namespace Go.Proofs.YtkphbibonagkfaaGreat
open Go.RowKit
set_option linter.unusedVariables false

set_option maxRecDepth 100000 in
theorem fewSections9_any (a : Option Addr) (n c : Nat) (w : World) (hn : n ≤ 9223372036854775807) : Calls Tryz.prog 24 #[.agg #[.slice a n c]] w fun e' w' => e' = .returned (.bool (decide (n ≤ 5))) ∧ Below w.heap.size w w' := by
  by_cases h : n ≤ 5
  · have h1 : (n : Int) ≤ 5 := by omega
    go_enter Tryz.func24, Tryz.ntmps24
    go_wp2
    go_ret
    exact ⟨ret_bool (by simp [h]), by (repeat' (first | (with_reducible exact Below.refl _ _) | (with_reducible assumption) | (with_reducible refine Below.drewN ?_ _) | (with_reducible refine Below.alloc ?_ ?_ _) | (with_reducible refine Below.drew ?_) | (with_reducible refine Below.setCell ?_ ?_ _) | (with_reducible refine Below.step (by assumption) ?_ ?_) | (with_reducible exact And.left (by assumption)) | go_size))⟩
  · have h1 : ¬ (n : Int) ≤ 5 := by omega
    go_enter Tryz.func24, Tryz.ntmps24
    go_wp2
    go_ret
    exact ⟨ret_bool (by simp), by (repeat' (first | (with_reducible exact Below.refl _ _) | (with_reducible assumption) | (with_reducible refine Below.drewN ?_ _) | (with_reducible refine Below.alloc ?_ ?_ _) | (with_reducible refine Below.drew ?_) | (with_reducible refine Below.setCell ?_ ?_ _) | (with_reducible refine Below.step (by assumption) ?_ ?_) | (with_reducible exact And.left (by assumption)) | go_size))⟩
set_option maxRecDepth 100000 in
theorem copyNetwork_any (l : List T3) (a : Option Addr) (n c : Nat) (w : World) (h : T3R w a n l) (hn : n ≤ 100000) :
    Calls Tryz.prog 26 #[.agg #[.slice a n c]] w fun e' w' => ∃ a' c', e' = .returned (.agg #[.slice a' n c']) ∧ Below w.heap.size w w' ∧ w'.ownsRow w.heap.size 76 3 (.slice a' n c') n (ecells e3 l) := by
  have H := Lib.hid h
  clear h
  have HOA := Lib.hid (show (((w.alloc (Obj.cells #[.slice a n c] 47)).alloc (Obj.cells #[.slice none 0 0] 47)).alloc (Obj.cells #[] 76)).ownsRow (w.heap.size + 1 + 1) 76 3 (.slice (some ⟨w.heap.size + 1 + 1, 0, none⟩) 0 0) 0 [] by
    have := World.ownsRow_made (base := w.heap.size + 1 + 1) (e := 76) (size := 3) ((w.alloc (Obj.cells #[.slice a n c] 47)).alloc (Obj.cells #[.slice none 0 0] 47)) #[] 0 (by simp) (by simp [maxLen]) rfl
    simpa using this)
  go_enter Tryz.func26, Tryz.ntmps26
  go_wp2_with (at_builtin; refine wpList_append_sl _ rfl _ _ 45 rfl (w.heap.size + 1 + 1) 76 _ 3 24 Tryz.underlying45 infoSec rfl (by omega) (.slice (some ⟨w.heap.size + 1 + 1, 0, none⟩) 0 0) 0 [] rfl HOA.out _ n c (ecells e3 l) rfl (ER.below H.out (by (repeat' (first | (with_reducible exact Below.refl _ _) | (with_reducible assumption) | (with_reducible refine Below.drewN ?_ _) | (with_reducible refine Below.alloc ?_ ?_ _) | (with_reducible refine Below.drew ?_) | (with_reducible refine Below.setCell ?_ ?_ _) | (with_reducible refine Below.step (by assumption) ?_ ?_) | (with_reducible exact And.left (by assumption)) | go_size)))).2 (ecells_ones e3_one l) (by omega) (by omega) (by rw [World.size_alloc, World.size_alloc, World.size_alloc]; omega) ?_)
  intro v2 w2 hown2 _ hb2
  obtain ⟨a', c', rfl, _, _⟩ := owns_slice hown2
  have hbw : Below (w.heap.size + 1 + 1) ((w.alloc (Obj.cells #[.slice a n c] 47)).alloc (Obj.cells #[.slice none 0 0] 47)) w2 := Below.trans (by (repeat' (first | (with_reducible exact Below.refl _ _) | (with_reducible assumption) | (with_reducible refine Below.drewN ?_ _) | (with_reducible refine Below.alloc ?_ ?_ _) | (with_reducible refine Below.drew ?_) | (with_reducible refine Below.setCell ?_ ?_ _) | (with_reducible refine Below.step (by assumption) ?_ ?_) | (with_reducible exact And.left (by assumption)) | go_size))) hb2
  have z0 : w2.cell? ⟨w.heap.size + 1, 0, none⟩ = some (.slice none 0 0) := by rw [cellB hbw _ _ (by omega)]; go_simp
  have f0 : w2.frozen? ⟨w.heap.size + 1, 0, none⟩ = false := by rw [frozenB hbw _ _ (by omega)]; go_simp
  have hz2 := hbw.size
  simp only [World.size_alloc] at hz2
  have l1 : w.heap.size + 1 < w2.heap.size := by omega
  have HB := Lib.hid (show Below w.heap.size w w2 from Below.trans (by (repeat' (first | (with_reducible exact Below.refl _ _) | (with_reducible assumption) | (with_reducible refine Below.drewN ?_ _) | (with_reducible refine Below.alloc ?_ ?_ _) | (with_reducible refine Below.drew ?_) | (with_reducible refine Below.setCell ?_ ?_ _) | (with_reducible refine Below.step (by assumption) ?_ ?_) | (with_reducible exact And.left (by assumption)) | go_size))) (hbw.mono (by omega)))
  have HO := Lib.hid (show w2.ownsRow (w.heap.size + 1 + 1) 76 3 (.slice a' n c') n (ecells e3 l) by simpa using hown2)
  clear hown2 hb2 hbw hz2
  go_wp2_with fail
  generalize hW : World.setCell _ _ _ = w3
  have r0 : w3.cell? ⟨w.heap.size + 1, 0, none⟩ = some (.slice a' n c') := by { rw [← hW]; clear hW; go_simp }
  have hb3 : Below w.heap.size w w3 := by { rw [← hW]; have := HB.out; (repeat' (first | (with_reducible exact Below.refl _ _) | (with_reducible assumption) | (with_reducible refine Below.drewN ?_ _) | (with_reducible refine Below.alloc ?_ ?_ _) | (with_reducible refine Below.drew ?_) | (with_reducible refine Below.setCell ?_ ?_ _) | (with_reducible refine Below.step (by assumption) ?_ ?_) | (with_reducible exact And.left (by assumption)) | go_size)) }
  have ho3 : w3.ownsRow (w.heap.size + 1 + 1) 76 3 (.slice a' n c') n (ecells e3 l) := by { rw [← hW]; have := HO.out; (repeat' (first | (with_reducible assumption) | ((with_reducible refine owns_lit ?_ ?_ ?_ ?_) <;> first | (simp; done) | (simp; omega) | omega) | (with_reducible refine World.ownsRow.alloc ?_ _) | (with_reducible refine World.ownsRow.drew ?_) | (with_reducible refine owns_drewN ?_ _) | (with_reducible refine ownsRow_setCell_below ?_ ?_ _) | (simp; done) | (simp; omega) | omega)) }
  clear hW
  exact bodyPost_ret (v := .agg #[.slice a' n c']) (by simp [results, Tryz.results26, go_sem, r0]) rfl ⟨a', c', rfl, hb3, owns_mono ho3 (by omega)⟩
set_option maxRecDepth 100000 in
theorem copyDeformations_any (l : List T3) (a : Option Addr) (n c : Nat) (w : World) (h : T3R w a n l) (hn : n ≤ 100000) :
    Calls Tryz.prog 27 #[.slice a n c] w fun e' w' => ∃ a' c', e' = .returned (.slice a' n c') ∧ Below w.heap.size w w' ∧ T3R w' a' n l := by
  have H := Lib.hid h
  clear h
  go_enter Tryz.func27, Tryz.ntmps27
  go_wp2_with (at_builtin; refine wpList_append_sl _ rfl _ _ 48 rfl w.heap.size 104 _ 3 24 Tryz.underlying48 infoDef rfl (by omega) _ 0 _ rfl (World.ownsRow_made w #[] 0 (by omega) (by simp [maxLen]) rfl) _ n c (ecells e3 l) rfl (ER.below H.out (by (repeat' (first | (with_reducible exact Below.refl _ _) | (with_reducible assumption) | (with_reducible refine Below.drewN ?_ _) | (with_reducible refine Below.alloc ?_ ?_ _) | (with_reducible refine Below.drew ?_) | (with_reducible refine Below.setCell ?_ ?_ _) | (with_reducible refine Below.step (by assumption) ?_ ?_) | (with_reducible exact And.left (by assumption)) | go_size)))).2 (ecells_ones e3_one l) (by omega) (by omega) (by simp) ?_)
  intro v2 w2 hown2 _ hb2
  obtain ⟨a', c', rfl, _, _⟩ := owns_slice hown2
  have HO := Lib.hid hown2
  have HB := Lib.hid hb2
  clear hown2 hb2
  go_wp2
  go_ret
  exact ⟨a', c', rfl, Below.trans (by (repeat' (first | (with_reducible exact Below.refl _ _) | (with_reducible assumption) | (with_reducible refine Below.drewN ?_ _) | (with_reducible refine Below.alloc ?_ ?_ _) | (with_reducible refine Below.drew ?_) | (with_reducible refine Below.setCell ?_ ?_ _) | (with_reducible refine Below.step (by assumption) ?_ ?_) | (with_reducible exact And.left (by assumption)) | go_size))) HB.out, ER.of_owns H.out.1 (by simpa using HO.out)⟩
theorem netE_cases (l : List T3) : netE l = if (l.length : Int) = 0 then (0, 10) else if 3 < (l.length : Int) then (0, 8) else if 0 ≤ idxFrom (fun p => !secB p) l 0 then (idxFrom (fun p => !secB p) l 0, 2) else (0, 0) := by
  unfold netE netH
  by_cases h0 : (l.length : Int) = 0
  · have : ¬ 0 < l.length := by omega
    rw [if_pos h0, decide_eq_false this]
    rfl
  · have h1 : 0 < l.length := by omega
    rw [if_neg h0, decide_eq_true h1]
    by_cases h3 : 3 < (l.length : Int)
    · have : ¬ (l.length : Int) ≤ 3 := by omega
      rw [if_pos h3, decide_eq_false this]
      rfl
    · have : (l.length : Int) ≤ 3 := by omega
      rw [if_neg h3, decide_eq_true this]
      rfl
set_option maxHeartbeats 1000000 in
set_option maxRecDepth 100000 in
theorem rCheckNetwork_any (l : List T3) (a : Option Addr) (n c : Nat) (w : World) (hl : T3R w a n l) :
    Calls Tryz.prog 37 #[.agg #[.slice a n c]] w fun e' w' => e' = .returned (.tuple #[.int .i64 (netE l).1, .int .i64 (netE l).2]) ∧ Below w.heap.size w w' := by
  have hn := hl.small
  have HL := Lib.hid hl
  have HLN := Lib.hid hl.len
  have hE := netE_cases l
  rw [hl.len] at hE
  obtain ⟨E, hEE⟩ : ∃ E, E = netE l := ⟨_, rfl⟩
  rw [← hEE] at hE ⊢
  clear hl hEE
  obtain ⟨I, hI⟩ : ∃ I, I = idxFrom (fun p => !secB p) l 0 := ⟨_, rfl⟩
  rw [← hI] at hE
  have HI := Lib.hid hI
  clear hI
  by_cases h0 : (n : Int) = 0
  · rw [if_pos h0] at hE
    subst hE
    have e0 : ((n : Int) == 0) = true := by simpa using h0
    clear h0
    go_enter Tryz.func37, Tryz.ntmps37
    go_wp2
    go_ret2
    exact ⟨rfl, by (repeat' (first | (with_reducible exact Below.refl _ _) | (with_reducible assumption) | (with_reducible refine Below.drewN ?_ _) | (with_reducible refine Below.alloc ?_ ?_ _) | (with_reducible refine Below.drew ?_) | (with_reducible refine Below.setCell ?_ ?_ _) | (with_reducible refine Below.step (by assumption) ?_ ?_) | (with_reducible exact And.left (by assumption)) | go_size))⟩
  rw [if_neg h0] at hE
  have e0 : ((n : Int) == 0) = false := by simpa using h0
  by_cases h3 : 3 < (n : Int)
  · rw [if_pos h3] at hE
    subst hE
    clear h0
    go_enter Tryz.func37, Tryz.ntmps37
    go_wp2
    go_ret2
    exact ⟨rfl, by (repeat' (first | (with_reducible exact Below.refl _ _) | (with_reducible assumption) | (with_reducible refine Below.drewN ?_ _) | (with_reducible refine Below.alloc ?_ ?_ _) | (with_reducible refine Below.drew ?_) | (with_reducible refine Below.setCell ?_ ?_ _) | (with_reducible refine Below.step (by assumption) ?_ ?_) | (with_reducible exact And.left (by assumption)) | go_size))⟩
  rw [if_neg h3] at hE
  have HE := Lib.hid hE
  have e3 : decide (3 < (n : Int)) = false := decide_eq_false h3
  clear h0 hE
  go_enter Tryz.func37, Tryz.ntmps37
  go_wp2_with fail
  generalize hW : World.alloc _ _ = w5
  have hb5 : Below w.heap.size w w5 := by rw [← hW]; (repeat' (first | (with_reducible exact Below.refl _ _) | (with_reducible assumption) | (with_reducible refine Below.drewN ?_ _) | (with_reducible refine Below.alloc ?_ ?_ _) | (with_reducible refine Below.drew ?_) | (with_reducible refine Below.setCell ?_ ?_ _) | (with_reducible refine Below.step (by assumption) ?_ ?_) | (with_reducible exact And.left (by assumption)) | go_size))
  have q0 : w5.cell? ⟨w.heap.size, 0, none⟩ = some (.slice a n c) := by { rw [← hW]; clear hW; go_simp }
  have z5 : w.heap.size < w5.heap.size := by { rw [← hW]; clear hW; simp }
  have HB5 := Lib.hid hb5
  clear hW hb5
  go_loopw [4] (fun i wr => ∃ k : Nat, i = .int .i64 k ∧ k ≤ n ∧ Hid (idxFrom (fun p => !secB p) (l.drop k) k = I) ∧ Hid (Below w5.heap.size w5 wr)) (fun i _ => n - (intOf i).toNat)
  case atStart => exact ⟨0, rfl, Nat.zero_le _, Lib.hid (by rw [HI.out]; rfl), Lib.hid (Below.refl _ _)⟩
  case round =>
    obtain ⟨k, rfl, hk, hF, hB⟩ := hrel
    have i0 : (0 : Int) ≤ (k : Int) := by omega
    have hBx := hB.out
    have hzr := hBx.size
    have q0r : wr.cell? ⟨w.heap.size, 0, none⟩ = some (.slice a n c) := by { rw [cellB hBx _ _ (by first | (simp; done) | (simp; omega) | omega)]; all_goals (first | assumption | go_simp) }; have zr : w.heap.size < wr.heap.size := by { omega }
    rcases Nat.lt_or_ge k n with hlt | hge
    · have i1 : (k : Int) < (n : Int) := by omega
      obtain ⟨b, o, rfl, hb, hc⟩ := (HL.out.below (HB5.out.trans (hBx.mono HB5.out.size))).addr (by omega)
      obtain ⟨⟨x, y, z⟩, hx⟩ := ER.get HL.out hlt
      obtain ⟨p0, p1, p2⟩ := hc k _ hx
      have hF' := hF.out
      rw [drop_cons' hx, idxFrom] at hF'
      have HX := Lib.hid (show secB ⟨x, y, z⟩ = ((wi x 0 5 && wi y 0 3) && wi z 0 3) by rfl)
      have HB1 := Lib.hid (fun w' => bwithin_any x 0 5 w')
      have HB2 := Lib.hid (fun w' => bwithin_any y 0 3 w')
      have HB3 := Lib.hid (fun w' => bwithin_any z 0 3 w')
      simp only at p0 p1 p2
      rw [HX.out] at hF'
      generalize wi x 0 5 = b1 at *
      generalize wi y 0 3 = b2 at *
      generalize wi z 0 3 = b3 at *
      have HF := Lib.hid hF'
      clear hF' hF hx hc HX
      go_wp2_with fail
      generalize hW : World.alloc _ _ = ws
      have hbs : Below wr.heap.size wr ws := by rw [← hW]; (repeat' (first | (with_reducible exact Below.refl _ _) | (with_reducible assumption) | (with_reducible refine Below.drewN ?_ _) | (with_reducible refine Below.alloc ?_ ?_ _) | (with_reducible refine Below.drew ?_) | (with_reducible refine Below.setCell ?_ ?_ _) | (with_reducible refine Below.step (by assumption) ?_ ?_) | (with_reducible exact And.left (by assumption)) | go_size))
      have s0 : ws.cell? ⟨wr.heap.size, 0, none⟩ = some (.int .i64 x) := by { rw [← hW]; clear hW; go_simp }
      have s1 : ws.cell? ⟨wr.heap.size, 1, none⟩ = some (.int .i64 y) := by { rw [← hW]; clear hW; go_simp }
      have s2 : ws.cell? ⟨wr.heap.size, 2, none⟩ = some (.int .i64 z) := by { rw [← hW]; clear hW; go_simp }
      have zs : wr.heap.size < ws.heap.size := by { rw [← hW]; clear hW; simp }
      have HBs := Lib.hid (hBx.trans (hbs.mono hBx.size))
      have HBw := Lib.hid (HB5.out.trans (HBs.out.mono HB5.out.size))
      obtain ⟨X, hX⟩ : ∃ X, X = wr.heap.size := ⟨_, rfl⟩
      rw [← hX] at s0 s1 s2 zs ⊢
      clear hW hbs hBx hX p0 p1 p2 q0r hzr zr hb
      refine (HB1.out _).mono ?_
      rintro e6 w6 ⟨rfl, rfl⟩
      cases b1
      · have hF := HF.out
        simp at hF
        have hE := HE.out
        rw [← hF, if_pos i0] at hE
        subst hE
        clear HF HE
        go_wp2
        go_ret2
        exact ⟨rfl, HBw.out⟩
      go_wp2_with fail
      refine (HB2.out _).mono ?_
      rintro e7 w7 ⟨rfl, rfl⟩
      cases b2
      · have hF := HF.out
        simp at hF
        have hE := HE.out
        rw [← hF, if_pos i0] at hE
        subst hE
        clear HF HE
        go_wp2
        go_ret2
        exact ⟨rfl, HBw.out⟩
      go_wp2_with fail
      refine (HB3.out _).mono ?_
      rintro e8 w8 ⟨rfl, rfl⟩
      cases b3
      · have hF := HF.out
        simp at hF
        have hE := HE.out
        rw [← hF, if_pos i0] at hE
        subst hE
        clear HF HE
        go_wp2
        go_ret2
        exact ⟨rfl, HBw.out⟩
      have hF := HF.out
      simp at hF
      have HF2 := Lib.hid hF
      clear hF HF
      go_wp2
      go_roundw
      case rel => exact ⟨k + 1, by go_num, by omega, HF2, HBs⟩
      case measure => simp [intOf]; omega
    · obtain rfl : k = n := by omega
      have hF := hF.out
      rw [drop_end l k (by rw [HLN.out]; exact Nat.le_refl _), idxFrom] at hF
      have hE := HE.out
      rw [← hF, if_neg (by decide)] at hE
      subst hE
      clear HE
      go_wp2
      go_ret2
      exact ⟨rfl, HB5.out.trans (hB.out.mono HB5.out.size)⟩
set_option maxRecDepth 100000 in
theorem rNetworkErr_any (l : List T3) (a : Option Addr) (n c : Nat) (w : World) (hl : T3R w a n l) :
    Calls Tryz.prog 28 #[.agg #[.slice a n c]] w fun e' w' => e' = .returned (.int .i64 (netE l).2) ∧ Below w.heap.size w w' := by
  have HC := Lib.hid (fun (w' : World) (hb : Below w.heap.size w w') => rCheckNetwork_any l a n c w' (hl.below hb))
  generalize netE l = E at *
  obtain ⟨k, e⟩ := E
  simp only at HC ⊢
  clear hl
  go_enter Tryz.func28, Tryz.ntmps28
  go_wp2_with fail
  refine (HC.out _ (by (repeat' (first | (with_reducible exact Below.refl _ _) | (with_reducible assumption) | (with_reducible refine Below.drewN ?_ _) | (with_reducible refine Below.alloc ?_ ?_ _) | (with_reducible refine Below.drew ?_) | (with_reducible refine Below.setCell ?_ ?_ _) | (with_reducible refine Below.step (by assumption) ?_ ?_) | (with_reducible exact And.left (by assumption)) | go_size)))).mono ?_
  rintro e5 w5 ⟨rfl, hb5⟩
  have HB := Lib.hid (show Below w.heap.size w w5 from Below.trans (by (repeat' (first | (with_reducible exact Below.refl _ _) | (with_reducible assumption) | (with_reducible refine Below.drewN ?_ _) | (with_reducible refine Below.alloc ?_ ?_ _) | (with_reducible refine Below.drew ?_) | (with_reducible refine Below.setCell ?_ ?_ _) | (with_reducible refine Below.step (by assumption) ?_ ?_) | (with_reducible exact And.left (by assumption)) | go_size))) (hb5.mono (by simp)))
  clear hb5
  go_wp2
  go_ret
  exact ⟨rfl, HB.out⟩
end Go.Proofs.YtkphbibonagkfaaGreat

/- The reference of changes: which are valid; all of them; equal networks. -/
namespace Go.Proofs.YtkphbibonagkfaaGreat
open Go.RowKit
set_option linter.unusedVariables false

theorem devE_cases (n : Nat) (p : T3) : devE n p = if wi p.x 0 ((n : Int) - 1) = false then 6 else if wi p.y 0 2 = false then 15 else if wi p.z (-10) 10 = false then 2 else 0 := by
  unfold devE
  cases wi p.x 0 ((n : Int) - 1)
  · rfl
  cases wi p.y 0 2
  · rfl
  cases wi p.z (-10) 10 <;> rfl
set_option maxHeartbeats 2000000 in
set_option maxRecDepth 100000 in
theorem rDeformationsErr_any (n c m cm : Nat) (a ap : Option Addr) (l : List T3) (w : World) (hn : n ≤ 9223372036854775807) (hl : T3R w ap m l) :
    Calls Tryz.prog 29 #[.agg #[.slice a n c], .slice ap m cm] w fun e' w' => e' = .returned (.int .i64 (defsE n l)) ∧ Below w.heap.size w w' := by
  have hm := hl.small
  have HL := Lib.hid hl
  have HLN := Lib.hid hl.len
  have hE : defsE n l = if 6 < m then 8 else (firstAt (fun k => devE n (pAt l k)) m 0).2 := by unfold defsE; rw [hl.len]
  obtain ⟨E, hEE⟩ : ∃ E, E = defsE n l := ⟨_, rfl⟩
  rw [← hEE] at hE ⊢
  clear hl hEE
  by_cases h6 : 6 < m
  · rw [if_pos h6] at hE
    subst hE
    have e6 : (6 : Int) < (m : Int) := by omega
    go_enter Tryz.func29, Tryz.ntmps29
    go_wp2
    go_ret
    exact ⟨rfl, by (repeat' (first | (with_reducible exact Below.refl _ _) | (with_reducible assumption) | (with_reducible refine Below.drewN ?_ _) | (with_reducible refine Below.alloc ?_ ?_ _) | (with_reducible refine Below.drew ?_) | (with_reducible refine Below.setCell ?_ ?_ _) | (with_reducible refine Below.step (by assumption) ?_ ?_) | (with_reducible exact And.left (by assumption)) | go_size))⟩
  rw [if_neg h6] at hE
  have HE := Lib.hid hE
  have e6 : ¬ (6 : Int) < (m : Int) := by omega
  clear hE
  go_enter Tryz.func29, Tryz.ntmps29
  go_wp2_with fail
  generalize hW : World.alloc _ _ = w5
  have hb5 : Below w.heap.size w w5 := by rw [← hW]; (repeat' (first | (with_reducible exact Below.refl _ _) | (with_reducible assumption) | (with_reducible refine Below.drewN ?_ _) | (with_reducible refine Below.alloc ?_ ?_ _) | (with_reducible refine Below.drew ?_) | (with_reducible refine Below.setCell ?_ ?_ _) | (with_reducible refine Below.step (by assumption) ?_ ?_) | (with_reducible exact And.left (by assumption)) | go_size))
  have q0 : w5.cell? ⟨w.heap.size, 0, none⟩ = some (.slice a n c) := by { rw [← hW]; clear hW; go_simp }
  have z5 : w.heap.size < w5.heap.size := by { rw [← hW]; clear hW; simp }
  have HB5 := Lib.hid hb5
  clear hW hb5
  go_loopw [5] (fun i wr => ∃ k : Nat, i = .int .i64 k ∧ k ≤ m ∧ Hid ((firstAt (fun k => devE n (pAt l k)) (m - k) k).2 = E) ∧ ∃ j, wr = w5.drewN j) (fun i _ => m - (intOf i).toNat)
  case atStart => exact ⟨0, rfl, Nat.zero_le _, Lib.hid HE.out.symm, 0, rfl⟩
  case round =>
    obtain ⟨k, rfl, hk, hF, j, rfl⟩ := hrel
    have i0 : (0 : Int) ≤ (k : Int) := by omega
    rcases Nat.lt_or_ge k m with hlt | hge
    · have i1 : (k : Int) < (m : Int) := by omega
      obtain ⟨b, o, rfl, hb, hc⟩ := (HL.out.below HB5.out).addr (by omega)
      obtain ⟨⟨x, y, z⟩, hx⟩ := ER.get HL.out hlt
      obtain ⟨p0, p1, p2⟩ := hc k _ hx
      have hF' := hF.out
      rw [firstAt_step hlt, pAt_get3 hx, devE_cases] at hF'
      have HB1 := Lib.hid (fun w' => bwithin_any x 0 ((n : Int) - 1) w')
      have HB2 := Lib.hid (fun w' => bwithin_any y 0 2 w')
      have HB3 := Lib.hid (fun w' => bwithin_any z (-10) 10 w')
      simp only at p0 p1 p2 hF'
      generalize wi x 0 ((n : Int) - 1) = b1 at *
      generalize wi y 0 2 = b2 at *
      generalize wi z (-10) 10 = b3 at *
      have HF := Lib.hid hF'
      clear hF' hF hx hc
      go_wp2_with fail
      refine drew_of_eq 9 (by kernel_rfl) (by kernel_rfl) ?_; simp only [List.take_succ_cons, List.take_zero, List.drop_succ_cons, List.drop_zero]; repeat go_big_quiet_step (fail)
      refine wpQuiet_nil ?_; intro m7
      go_wp2_with fail
      refine (HB1.out _).mono ?_
      rintro e6 w6 ⟨rfl, rfl⟩
      cases b1
      · have hF := HF.out
        simp at hF
        subst hF
        clear HF HE
        go_wp2
        go_ret
        exact ⟨rfl, by have := HB5.out; (repeat' (first | (with_reducible exact Below.refl _ _) | (with_reducible assumption) | (with_reducible refine Below.drewN ?_ _) | (with_reducible refine Below.alloc ?_ ?_ _) | (with_reducible refine Below.drew ?_) | (with_reducible refine Below.setCell ?_ ?_ _) | (with_reducible refine Below.step (by assumption) ?_ ?_) | (with_reducible exact And.left (by assumption)) | go_size))⟩
      go_wp2_with fail
      refine (HB2.out _).mono ?_
      rintro e7 w7 ⟨rfl, rfl⟩
      cases b2
      · have hF := HF.out
        simp at hF
        subst hF
        clear HF HE
        go_wp2
        go_ret
        exact ⟨rfl, by have := HB5.out; (repeat' (first | (with_reducible exact Below.refl _ _) | (with_reducible assumption) | (with_reducible refine Below.drewN ?_ _) | (with_reducible refine Below.alloc ?_ ?_ _) | (with_reducible refine Below.drew ?_) | (with_reducible refine Below.setCell ?_ ?_ _) | (with_reducible refine Below.step (by assumption) ?_ ?_) | (with_reducible exact And.left (by assumption)) | go_size))⟩
      go_wp2_with fail
      refine (HB3.out _).mono ?_
      rintro e8 w8 ⟨rfl, rfl⟩
      cases b3
      · have hF := HF.out
        simp at hF
        subst hF
        clear HF HE
        go_wp2
        go_ret
        exact ⟨rfl, by have := HB5.out; (repeat' (first | (with_reducible exact Below.refl _ _) | (with_reducible assumption) | (with_reducible refine Below.drewN ?_ _) | (with_reducible refine Below.alloc ?_ ?_ _) | (with_reducible refine Below.drew ?_) | (with_reducible refine Below.setCell ?_ ?_ _) | (with_reducible refine Below.step (by assumption) ?_ ?_) | (with_reducible exact And.left (by assumption)) | go_size))⟩
      have hF := HF.out
      simp at hF
      have HF2 := Lib.hid hF
      clear hF HF
      go_wp2
      go_roundw
      case rel => exact ⟨k + 1, by go_num, by omega, HF2, _, by first | rfl | exact World.drewN_drewN _ _ _ | simp [World.drewN_drewN]⟩
      case measure => simp [intOf]; omega
    · obtain rfl : k = m := by omega
      have hF := hF.out
      rw [firstAt_end (Nat.le_refl _)] at hF
      subst hF
      clear HE
      go_wp2
      go_ret
      exact ⟨rfl, by have := HB5.out; (repeat' (first | (with_reducible exact Below.refl _ _) | (with_reducible assumption) | (with_reducible refine Below.drewN ?_ _) | (with_reducible refine Below.alloc ?_ ?_ _) | (with_reducible refine Below.drew ?_) | (with_reducible refine Below.setCell ?_ ?_ _) | (with_reducible refine Below.step (by assumption) ?_ ?_) | (with_reducible exact And.left (by assumption)) | go_size))⟩
theorem nats_range9 (k : Nat) : icells (nats (List.range (k + 1))) = icells (nats (List.range k)) ++ [.int .i64 (k : Int)] := by
  unfold nats
  rw [List.range_succ, List.map_append, icells_append]
  rfl
set_option maxRecDepth 100000 in
theorem every_any (a : Option Addr) (n c : Nat) (w : World) (hn : n ≤ 100000) :
    Calls Tryz.prog 31 #[.slice a n c] w fun e' w' => ∃ a' c', e' = .returned (.slice a' n c') ∧ Below w.heap.size w w' ∧ IntsR w' a' n (nats (List.range n)) := by
  go_enter Tryz.func31, Tryz.ntmps31
  go_wp2_with fail
  go_loopw [3, 4] (fun v i wr => ∃ (k : Nat) (av : Option Addr) (cv : Nat), i = .int .i64 k ∧ v = .slice av k cv ∧ k ≤ n ∧ Hid (wr.ownsRow w.heap.size 3 1 (.slice av k cv) k (icells (nats (List.range k)))) ∧ Hid (Below w.heap.size w wr)) (fun _ i _ => n - (intOf i).toNat)
  case atStart => exact ⟨0, none, 0, rfl, rfl, Nat.zero_le _, Lib.hid (World.ownsRow_nil _ _ _ _), Lib.hid (Below.refl _ _)⟩
  case round =>
    obtain ⟨k, av, cv, rfl, rfl, hk, hO, hB⟩ := hrel
    have i0 : (0 : Int) ≤ (k : Int) := by omega
    have hzr := hB.out.size
    rcases Nat.lt_or_ge k n with hlt | hge
    · have i1 : (k : Int) < (n : Int) := by omega
      go_wp2_with (at_builtin; refine wpList_append_sl _ rfl _ _ 42 rfl w.heap.size 3 _ 1 8 Tryz.underlying42 infoInt rfl (by omega) (.slice av k cv) k _ rfl (hO.out.alloc _) _ 1 1 [.int .i64 (k : Int)] rfl (SlR.lit _ _ _ _ _ 1 1 (by rfl) (by simp) rfl (by omega)) (by simp [Value.oneCell']) (by omega) (by omega) (by simp; omega) ?_)
      intro v2 w2 hown2 hgr2 hb2
      obtain ⟨av2, cv2, rfl, _, _⟩ := owns_slice hown2
      rw [← nats_range9] at hown2
      have HO2 := Lib.hid hown2
      have HB2 := Lib.hid ((hB.out.alloc (by omega) _).trans hb2)
      clear hown2 hgr2 hb2 hO hB
      go_wp2
      go_roundw
      case rel => exact ⟨k + 1, av2, cv2, by go_num, rfl, by omega, HO2, HB2⟩
      case measure => simp [intOf]; omega
    · obtain rfl : k = n := by omega
      go_wp2
      go_ret
      exact ⟨av, cv, rfl, hB.out, SlR.of_owns hO.out⟩
set_option maxHeartbeats 1000000 in
set_option maxRecDepth 100000 in
theorem sameNetwork_any (l m : List T3) (a b : Option Addr) (n c k d : Nat) (w : World) (hl : T3R w a n l) (hm : T3R w b k m) :
    Calls Tryz.prog 32 #[.agg #[.slice a n c], .agg #[.slice b k d]] w fun e' w' => e' = .returned (.bool (decide (l = m))) ∧ Below w.heap.size w w' := by
  have hn := hl.small
  have hk := hm.small
  have HL := Lib.hid hl
  have HM := Lib.hid hm
  clear hl hm
  by_cases hne : n = k
  · subst hne
    have hbb : ((n : Int) != (n : Int)) = false := by simp
    go_enter Tryz.func32, Tryz.ntmps32
    go_wp2_with fail
    generalize hW : World.alloc _ _ = w5
    have hb5 : Below w.heap.size w w5 := by rw [← hW]; (repeat' (first | (with_reducible exact Below.refl _ _) | (with_reducible assumption) | (with_reducible refine Below.drewN ?_ _) | (with_reducible refine Below.alloc ?_ ?_ _) | (with_reducible refine Below.drew ?_) | (with_reducible refine Below.setCell ?_ ?_ _) | (with_reducible refine Below.step (by assumption) ?_ ?_) | (with_reducible exact And.left (by assumption)) | go_size))
    have q0 : w5.cell? ⟨w.heap.size, 0, none⟩ = some (.slice a n c) := by { rw [← hW]; clear hW; go_simp }
    have q1 : w5.cell? ⟨w.heap.size + 1, 0, none⟩ = some (.slice b n d) := by { rw [← hW]; clear hW; go_simp }
    have HB5 := Lib.hid hb5
    clear hW hb5
    go_loopw [5] (fun i wr => ∃ j : Nat, i = .int .i64 j ∧ j ≤ n ∧ Hid (decide (l.drop j = m.drop j) = decide (l = m)) ∧ ∃ t, wr = w5.drewN t) (fun i _ => n - (intOf i).toNat)
    case atStart => exact ⟨0, rfl, Nat.zero_le _, rfl, 0, rfl⟩
    case round =>
      obtain ⟨j, rfl, hj, hF, t, rfl⟩ := hrel
      have j0 : (0 : Int) ≤ (j : Int) := by omega
      rcases Nat.lt_or_ge j n with hlt | hge
      · have j1 : (j : Int) < (n : Int) := by omega
        obtain ⟨b1, o1, rfl, hb1, hc1⟩ := (HL.out.below HB5.out).addr (by omega)
        obtain ⟨b2, o2, rfl, hb2, hc2⟩ := (HM.out.below HB5.out).addr (by omega)
        obtain ⟨⟨x1, x2, x3⟩, hx⟩ := ER.get HL.out hlt
        obtain ⟨⟨y1, y2, y3⟩, hy⟩ := ER.get HM.out hlt
        obtain ⟨p0, p1, p2⟩ := hc1 j _ hx
        obtain ⟨s0, s1, s2⟩ := hc2 j _ hy
        have hF' := hF.out
        rw [drop_cons' hx, drop_cons' hy] at hF'
        have HF := Lib.hid hF'
        simp only at p0 p1 p2 s0 s1 s2
        clear hF' hF hx hy hc1 hc2
        by_cases hxy : x1 = y1 ∧ x2 = y2 ∧ x3 = y3
        · obtain ⟨rfl, rfl, rfl⟩ := hxy
          go_wp2_with fail
          go_quiet (fail)
          go_wp2
          go_roundw
          case rel => exact ⟨j + 1, by go_num, by omega, Lib.hid (by simpa using HF.out), _, by first | rfl | exact World.drewN_drewN _ _ _ | simp [World.drewN_drewN]⟩
          case measure => simp [intOf]; omega
        · by_cases h1 : x1 = y1
          · subst h1
            by_cases h2 : x2 = y2
            · subst h2
              have hz : ¬ x3 = y3 := fun h => hxy ⟨rfl, rfl, h⟩
              have e1 : (x3 == y3) = false := by simpa using hz
              clear hxy
              go_wp2_with fail
              go_quiet (fail)
              go_wp2
              go_ret
              exact ⟨ret_bool (by rw [← HF.out]; simp [hz]), by have := HB5.out; (repeat' (first | (with_reducible exact Below.refl _ _) | (with_reducible assumption) | (with_reducible refine Below.drewN ?_ _) | (with_reducible refine Below.alloc ?_ ?_ _) | (with_reducible refine Below.drew ?_) | (with_reducible refine Below.setCell ?_ ?_ _) | (with_reducible refine Below.step (by assumption) ?_ ?_) | (with_reducible exact And.left (by assumption)) | go_size))⟩
            · have hz : ¬ x2 = y2 := h2
              have e1 : (x2 == y2) = false := by simpa using hz
              clear hxy h2
              go_wp2_with fail
              go_quiet (fail)
              go_wp2
              go_ret
              exact ⟨ret_bool (by rw [← HF.out]; simp [hz]), by have := HB5.out; (repeat' (first | (with_reducible exact Below.refl _ _) | (with_reducible assumption) | (with_reducible refine Below.drewN ?_ _) | (with_reducible refine Below.alloc ?_ ?_ _) | (with_reducible refine Below.drew ?_) | (with_reducible refine Below.setCell ?_ ?_ _) | (with_reducible refine Below.step (by assumption) ?_ ?_) | (with_reducible exact And.left (by assumption)) | go_size))⟩
          · have hz : ¬ x1 = y1 := h1
            have e1 : (x1 == y1) = false := by simpa using hz
            clear hxy h1
            go_wp2_with fail
            go_quiet (fail)
            go_wp2
            go_ret
            exact ⟨ret_bool (by rw [← HF.out]; simp [hz]), by have := HB5.out; (repeat' (first | (with_reducible exact Below.refl _ _) | (with_reducible assumption) | (with_reducible refine Below.drewN ?_ _) | (with_reducible refine Below.alloc ?_ ?_ _) | (with_reducible refine Below.drew ?_) | (with_reducible refine Below.setCell ?_ ?_ _) | (with_reducible refine Below.step (by assumption) ?_ ?_) | (with_reducible exact And.left (by assumption)) | go_size))⟩
      · obtain rfl : j = n := by omega
        go_wp2
        go_ret
        exact ⟨ret_bool (by rw [← hF.out, drop_end l j (by rw [HL.out.len]; omega), drop_end m j (by rw [HM.out.len]; omega)]; rfl), by have := HB5.out; (repeat' (first | (with_reducible exact Below.refl _ _) | (with_reducible assumption) | (with_reducible refine Below.drewN ?_ _) | (with_reducible refine Below.alloc ?_ ?_ _) | (with_reducible refine Below.drew ?_) | (with_reducible refine Below.setCell ?_ ?_ _) | (with_reducible refine Below.step (by assumption) ?_ ?_) | (with_reducible exact And.left (by assumption)) | go_size))⟩
  · have hbb : ((n : Int) != (k : Int)) = true := by simp; omega
    go_enter Tryz.func32, Tryz.ntmps32
    go_wp2
    go_ret
    refine ⟨ret_bool ?_, by (repeat' (first | (with_reducible exact Below.refl _ _) | (with_reducible assumption) | (with_reducible refine Below.drewN ?_ _) | (with_reducible refine Below.alloc ?_ ?_ _) | (with_reducible refine Below.drew ?_) | (with_reducible refine Below.setCell ?_ ?_ _) | (with_reducible refine Below.step (by assumption) ?_ ?_) | (with_reducible exact And.left (by assumption)) | go_size))⟩
    have : ¬ l = m := by intro h; apply hne; rw [← HL.out.len, ← HM.out.len, h]
    simp [this]
end Go.Proofs.YtkphbibonagkfaaGreat
