import Derived.Deep.CutRange
import Derived.Test.YtbjgklifmillgaaMSch
import Derived.Test.YtbjgklifmillgaaPkStep
/- The program's peaks. -/
namespace Go.Proofs.Ytbjgklifmillgaa
open Go.RowKit
set_option linter.unusedVariables false

set_option maxRecDepth 100000 in
theorem peaks_bad (y src : List Int) (a a1 : Option Addr) (n c m c1 : Nat) (e : Bool) (w : World) (hy : IntsR w a n y) (hs : IntsR w a1 m src)
    (h0 : firstErr [lineErr y, unl (decide ((src.length : Int) ≤ 200)) 8] ≠ 0) :
    Calls Try.prog 29 #[.agg #[.slice a n c, .bool e], .slice a1 m c1] w (PPost y e src w) := by
  have HC := Lib.hid (fun (w' : World) (hb' : Below w.heap.size w w') => checkLine_any y a n c e w' (hy.below hb'))
  obtain ⟨E, hE⟩ : ∃ E, E = firstErr [lineErr y, unl (decide ((src.length : Int) ≤ 200)) 8] := ⟨_, rfl⟩
  have HPK := Lib.hid (pk_bad (y := y) (e := e) (l := src) hE.symm (by rw [hE]; exact h0))
  rw [← hE] at h0
  have h1' : (E != 0) = true := by simpa using h0
  have hml := hs.len
  rw [hml] at hE
  have HE := Lib.hid hE
  clear hy hs h0 hml hE
  go_enter Try.func29, Try.ntmps29
  go_wp2_with fail
  refine (HC.out _ (by (repeat' (first | (with_reducible exact Below.refl _ _) | (with_reducible assumption) | (with_reducible refine Below.drewN ?_ _) | (with_reducible refine Below.alloc ?_ ?_ _) | (with_reducible refine Below.drew ?_) | (with_reducible refine Below.setCell ?_ ?_ _) | (with_reducible refine Below.step (by assumption) ?_ ?_) | (with_reducible exact And.left (by assumption)) | go_size)))).mono ?_
  rintro e5 w5 ⟨rfl, hb5⟩
  have hz5 := hb5.size
  simp only [World.size_alloc] at hz5
  have q0 : w5.cell? ⟨w.heap.size, 0, none⟩ = some (.slice a n c) := by { rw [cellB hb5 _ _ (by first | (simp; done) | (simp; omega) | omega)]; all_goals (first | assumption | go_simp) }; have q1 : w5.cell? ⟨w.heap.size, 1, none⟩ = some (.bool e) := by { rw [cellB hb5 _ _ (by first | (simp; done) | (simp; omega) | omega)]; all_goals (first | assumption | go_simp) }; have p0 : w5.cell? ⟨w.heap.size + 1, 0, none⟩ = some (.slice none 0 0) := by { rw [cellB hb5 _ _ (by first | (simp; done) | (simp; omega) | omega)]; all_goals (first | assumption | go_simp) }; have p1 : w5.cell? ⟨w.heap.size + 1, 1, none⟩ = some (.slice none 0 0) := by { rw [cellB hb5 _ _ (by first | (simp; done) | (simp; omega) | omega)]; all_goals (first | assumption | go_simp) }; have f0 : w5.frozen? ⟨w.heap.size + 1, 0, none⟩ = false := by { rw [frozenB hb5 _ _ (by first | (simp; done) | (simp; omega) | omega)]; all_goals (first | assumption | go_simp) }; have f1 : w5.frozen? ⟨w.heap.size + 1, 1, none⟩ = false := by { rw [frozenB hb5 _ _ (by first | (simp; done) | (simp; omega) | omega)]; all_goals (first | assumption | go_simp) }; have l0 : w.heap.size < w5.heap.size := by { omega }; have l1 : w.heap.size + 1 < w5.heap.size := by { omega }
  go_wp2_with fail
  refine (unless_any _ _ _).mono ?_
  rintro e6 w6 ⟨rfl, rfl⟩
  go_wp2_with fail
  refine (first2 _ _ _ _ _ _ (by rfl) (by simp)).mono ?_
  rintro e6 w6 ⟨rfl, hw6⟩
  rw [← HE.out]
  have hbx : Below w5.heap.size w5 w6 := by rw [← hw6]; (repeat' (first | (with_reducible exact Below.refl _ _) | (with_reducible assumption) | (with_reducible refine Below.drewN ?_ _) | (with_reducible refine Below.alloc ?_ ?_ _) | (with_reducible refine Below.drew ?_) | (with_reducible refine Below.setCell ?_ ?_ _) | (with_reducible refine Below.step (by assumption) ?_ ?_) | (with_reducible exact And.left (by assumption)) | go_size))
  have hz6 := hbx.size
  have q0c : w6.cell? ⟨w.heap.size, 0, none⟩ = some (.slice a n c) := by { rw [cellB hbx _ _ (by first | (simp; done) | (simp; omega) | omega)]; all_goals (first | assumption | go_simp) }; have q1c : w6.cell? ⟨w.heap.size, 1, none⟩ = some (.bool e) := by { rw [cellB hbx _ _ (by first | (simp; done) | (simp; omega) | omega)]; all_goals (first | assumption | go_simp) }; have p0c : w6.cell? ⟨w.heap.size + 1, 0, none⟩ = some (.slice none 0 0) := by { rw [cellB hbx _ _ (by first | (simp; done) | (simp; omega) | omega)]; all_goals (first | assumption | go_simp) }; have p1c : w6.cell? ⟨w.heap.size + 1, 1, none⟩ = some (.slice none 0 0) := by { rw [cellB hbx _ _ (by first | (simp; done) | (simp; omega) | omega)]; all_goals (first | assumption | go_simp) }; have f0c : w6.frozen? ⟨w.heap.size + 1, 0, none⟩ = false := by { rw [frozenB hbx _ _ (by first | (simp; done) | (simp; omega) | omega)]; all_goals (first | assumption | go_simp) }; have f1c : w6.frozen? ⟨w.heap.size + 1, 1, none⟩ = false := by { rw [frozenB hbx _ _ (by first | (simp; done) | (simp; omega) | omega)]; all_goals (first | assumption | go_simp) }; have l0c : w.heap.size < w6.heap.size := by { omega }; have l1c : w.heap.size + 1 < w6.heap.size := by { omega }
  have HB6 := Lib.hid ((show Below w.heap.size w w5 by (repeat' (first | (with_reducible exact Below.refl _ _) | (with_reducible assumption) | (with_reducible refine Below.drewN ?_ _) | (with_reducible refine Below.alloc ?_ ?_ _) | (with_reducible refine Below.drew ?_) | (with_reducible refine Below.setCell ?_ ?_ _) | (with_reducible refine Below.step (by assumption) ?_ ?_) | (with_reducible exact And.left (by assumption)) | go_size))).trans (hbx.mono (by omega)))
  clear hbx hw6 q0 q1 p0 p1 f0 f1 l0 l1
  go_wp2
  refine bodyPost_ret (v := .tuple #[.agg #[.slice none 0 0, .slice none 0 0], .int .i64 E]) (by simp [results, Try.results29, go_sem, p0c, p1c]) rfl ⟨?_, none, 0, 0, none, 0, 0, by rw [HPK.out], ?_, ?_⟩
  · have := HB6.out
    (repeat' (first | (with_reducible exact Below.refl _ _) | (with_reducible assumption) | (with_reducible refine Below.drewN ?_ _) | (with_reducible refine Below.alloc ?_ ?_ _) | (with_reducible refine Below.drew ?_) | (with_reducible refine Below.setCell ?_ ?_ _) | (with_reducible refine Below.step (by assumption) ?_ ?_) | (with_reducible exact And.left (by assumption)) | go_size))
  · rw [HPK.out]; exact IntsR.nil _ _
  · rw [HPK.out]; exact IntsR.nil _ _

set_option maxHeartbeats 4000000 in
set_option maxRecDepth 100000 in
theorem peaks_main (y src : List Int) (a a1 : Option Addr) (n c m c1 : Nat) (e : Bool) (w : World) (hy : IntsR w a n y) (hs : IntsR w a1 m src)
    (h0 : firstErr [lineErr y, unl (decide ((src.length : Int) ≤ 200)) 8] = 0) :
    Calls Try.prog 29 #[.agg #[.slice a n c, .bool e], .slice a1 m c1] w (PPost y e src w) := by
  have HC := Lib.hid (fun (w' : World) (hb' : Below w.heap.size w w') => checkLine_any y a n c e w' (hy.below hb'))
  obtain ⟨hl0, hm200, hpk⟩ := pk_ok (y := y) (e := e) h0
  rw [hs.len] at hm200
  have hlz := lineErr_zero hl0
  rw [hy.len] at hlz
  have hn0 := hlz.1
  have hn10 := hlz.2.1
  have hst := stErr_zeros hl0
  rw [hy.len] at hst hpk
  have HST := Lib.hid hst
  rw [hl0] at HC
  obtain ⟨R0, hR0⟩ : ∃ R0, R0 = pkGo y e src (List.replicate n 0) (List.replicate n 0) (List.replicate (n + 1) 0) (List.replicate n 0) := ⟨_, rfl⟩
  rw [← hR0] at hpk
  have HPK := Lib.hid hpk
  have HR0 := Lib.hid hR0
  have HY := Lib.hid hy
  have HS := Lib.hid hs
  have hmk1 : ∀ w' : World, (Instr.makeSlice 31 (.int .i64 ((n : Int) + 1)) (.int .i64 ((n : Int) + 1))).run Try.prog w' = .ok (.slice (some ⟨w'.heap.size, 0, none⟩) (n + 1) (n + 1)) (w'.alloc (.cells (madeCells #[.int .i64 0] (n + 1)) 3)) := fun w' => makeInts Try.prog w' 31 3 Try.underlying31 infoInt (n + 1) (by omega)
  have hmk2 : ∀ w' : World, (Instr.makeSlice 31 (.int .i64 (n : Int)) (.int .i64 (n : Int))).run Try.prog w' = .ok (.slice (some ⟨w'.heap.size, 0, none⟩) n n) (w'.alloc (.cells (madeCells #[.int .i64 0] n) 3)) := fun w' => makeInts Try.prog w' 31 3 Try.underlying31 infoInt n (by omega)
  generalize hcs1 : madeCells #[Value.int .i64 0] (n + 1) = cs1 at hmk1
  generalize hcs2 : madeCells #[Value.int .i64 0] n = cs2 at hmk2
  have hL1 : icells (List.replicate (n + 1) 0) = cs1.toList := by rw [← hcs1, toList_madeCells_one]; simp [icells]
  have hL2 : icells (List.replicate n 0) = cs2.toList := by rw [← hcs2, toList_madeCells_one]; simp [icells]
  have hs1 : cs1.size = (n + 1) * 1 := by rw [← hcs1]; simp [size_madeCells]
  have hs2 : cs2.size = n * 1 := by rw [← hcs2]; simp [size_madeCells]
  have HL1 := Lib.hid hL1
  have HL2 := Lib.hid hL2
  have HS1 := Lib.hid hs1
  have HS2 := Lib.hid hs2
  clear hy hs h0 hl0 hlz hst hpk hR0 hcs1 hcs2 hL1 hL2 hs1 hs2
  go_enter Try.func29, Try.ntmps29
  go_wp2_with fail
  refine (HC.out _ (by (repeat' (first | (with_reducible exact Below.refl _ _) | (with_reducible assumption) | (with_reducible refine Below.drewN ?_ _) | (with_reducible refine Below.alloc ?_ ?_ _) | (with_reducible refine Below.drew ?_) | (with_reducible refine Below.setCell ?_ ?_ _) | (with_reducible refine Below.step (by assumption) ?_ ?_) | (with_reducible exact And.left (by assumption)) | go_size)))).mono ?_
  rintro e5 w5 ⟨rfl, hb5⟩
  have hz5 := hb5.size
  simp only [World.size_alloc] at hz5
  have q0 : w5.cell? ⟨w.heap.size, 0, none⟩ = some (.slice a n c) := by { rw [cellB hb5 _ _ (by first | (simp; done) | (simp; omega) | omega)]; all_goals (first | assumption | go_simp) }; have q1 : w5.cell? ⟨w.heap.size, 1, none⟩ = some (.bool e) := by { rw [cellB hb5 _ _ (by first | (simp; done) | (simp; omega) | omega)]; all_goals (first | assumption | go_simp) }; have p0 : w5.cell? ⟨w.heap.size + 1, 0, none⟩ = some (.slice none 0 0) := by { rw [cellB hb5 _ _ (by first | (simp; done) | (simp; omega) | omega)]; all_goals (first | assumption | go_simp) }; have p1 : w5.cell? ⟨w.heap.size + 1, 1, none⟩ = some (.slice none 0 0) := by { rw [cellB hb5 _ _ (by first | (simp; done) | (simp; omega) | omega)]; all_goals (first | assumption | go_simp) }; have f0 : w5.frozen? ⟨w.heap.size + 1, 0, none⟩ = false := by { rw [frozenB hb5 _ _ (by first | (simp; done) | (simp; omega) | omega)]; all_goals (first | assumption | go_simp) }; have f1 : w5.frozen? ⟨w.heap.size + 1, 1, none⟩ = false := by { rw [frozenB hb5 _ _ (by first | (simp; done) | (simp; omega) | omega)]; all_goals (first | assumption | go_simp) }; have l0 : w.heap.size < w5.heap.size := by { omega }; have l1 : w.heap.size + 1 < w5.heap.size := by { omega }
  have HB5 := Lib.hid (show Below w.heap.size w w5 by (repeat' (first | (with_reducible exact Below.refl _ _) | (with_reducible assumption) | (with_reducible refine Below.drewN ?_ _) | (with_reducible refine Below.alloc ?_ ?_ _) | (with_reducible refine Below.drew ?_) | (with_reducible refine Below.setCell ?_ ?_ _) | (with_reducible refine Below.step (by assumption) ?_ ?_) | (with_reducible exact And.left (by assumption)) | go_size)))
  clear hb5 HC
  go_wp2_with fail
  refine (unless_any _ _ _).mono ?_
  rintro e6 w6 ⟨rfl, rfl⟩
  go_wp2_with fail
  refine (first2 _ _ _ _ _ _ (by rfl) (by simp)).mono ?_
  rintro e6 w6 ⟨rfl, hw6⟩
  rw [show firstErr [0, unl true 8] = 0 from rfl]
  have hbx : Below w5.heap.size w5 w6 := by rw [← hw6]; (repeat' (first | (with_reducible exact Below.refl _ _) | (with_reducible assumption) | (with_reducible refine Below.drewN ?_ _) | (with_reducible refine Below.alloc ?_ ?_ _) | (with_reducible refine Below.drew ?_) | (with_reducible refine Below.setCell ?_ ?_ _) | (with_reducible refine Below.step (by assumption) ?_ ?_) | (with_reducible exact And.left (by assumption)) | go_size))
  have hz6 := hbx.size
  have q0c : w6.cell? ⟨w.heap.size, 0, none⟩ = some (.slice a n c) := by { rw [cellB hbx _ _ (by first | (simp; done) | (simp; omega) | omega)]; all_goals (first | assumption | go_simp) }; have q1c : w6.cell? ⟨w.heap.size, 1, none⟩ = some (.bool e) := by { rw [cellB hbx _ _ (by first | (simp; done) | (simp; omega) | omega)]; all_goals (first | assumption | go_simp) }; have p0c : w6.cell? ⟨w.heap.size + 1, 0, none⟩ = some (.slice none 0 0) := by { rw [cellB hbx _ _ (by first | (simp; done) | (simp; omega) | omega)]; all_goals (first | assumption | go_simp) }; have p1c : w6.cell? ⟨w.heap.size + 1, 1, none⟩ = some (.slice none 0 0) := by { rw [cellB hbx _ _ (by first | (simp; done) | (simp; omega) | omega)]; all_goals (first | assumption | go_simp) }; have f0c : w6.frozen? ⟨w.heap.size + 1, 0, none⟩ = false := by { rw [frozenB hbx _ _ (by first | (simp; done) | (simp; omega) | omega)]; all_goals (first | assumption | go_simp) }; have f1c : w6.frozen? ⟨w.heap.size + 1, 1, none⟩ = false := by { rw [frozenB hbx _ _ (by first | (simp; done) | (simp; omega) | omega)]; all_goals (first | assumption | go_simp) }; have l0c : w.heap.size < w6.heap.size := by { omega }; have l1c : w.heap.size + 1 < w6.heap.size := by { omega }
  have HB6 := Lib.hid (HB5.out.trans (hbx.mono HB5.out.size))
  clear hbx hw6 HB5 q0 q1 p0 p1 f0 f1 l0 l1 hz5
  go_wp2
  go_cut [8] from 32 to 37 (fun v8 wx => ∃ X8 g1 g2, v8 = .pointer (some ⟨X8, 0, none⟩) ∧ wx.cell? ⟨X8, 0, none⟩ = some (.slice (some ⟨g1, 0, none⟩) (n + 1) (n + 1)) ∧ wx.cell? ⟨X8, 1, none⟩ = some (.slice (some ⟨g2, 0, none⟩) n n)
      ∧ Hid (wx.ownsRow (w6.heap.size) 3 1 (.slice (some ⟨g1, 0, none⟩) (n + 1) (n + 1)) (n + 1) (icells (List.replicate (n + 1) 0))) ∧ Hid (wx.ownsRow (w6.heap.size) 3 1 (.slice (some ⟨g2, 0, none⟩) (n) (n)) (n) (icells (List.replicate n 0)))
      ∧ g1 ≠ g2 ∧ X8 ≠ g1 ∧ X8 ≠ g2 ∧ w6.heap.size ≤ X8 ∧ X8 < wx.heap.size ∧ Hid (Below w6.heap.size w6 wx))
  case first =>
    go_region
    · go_wp2
      go_meet
      case rel =>
        have hs1 := HS1.out
        have hs2 := HS2.out
        refine ⟨w6.heap.size + 1 + 1, w6.heap.size, w6.heap.size + 1, rfl, by go_simp, by go_simp, Lib.hid ?_, Lib.hid ?_, by omega, by omega, by omega, by omega, (by simp <;> omega), Lib.hid ?_⟩
        · rw [HL1.out]
          repeat' (first | (with_reducible assumption) | ((with_reducible refine owns_lit ?_ ?_ ?_ ?_) <;> first | (simp; done) | (simp; omega) | omega) | (with_reducible refine World.ownsRow.alloc ?_ _) | (with_reducible refine World.ownsRow.drew ?_) | (with_reducible refine owns_drewN ?_ _) | (with_reducible refine ownsRow_setCell_other ?_ (by simp [Value.ownBlock]) _) | (with_reducible refine ownsRow_setCell_other ?_ (by simp [Value.ownBlock]; omega) _) | (simp; done) | (simp; omega) | omega)
        · rw [HL2.out]
          repeat' (first | (with_reducible assumption) | ((with_reducible refine owns_lit ?_ ?_ ?_ ?_) <;> first | (simp; done) | (simp; omega) | omega) | (with_reducible refine World.ownsRow.alloc ?_ _) | (with_reducible refine World.ownsRow.drew ?_) | (with_reducible refine owns_drewN ?_ _) | (with_reducible refine ownsRow_setCell_other ?_ (by simp [Value.ownBlock]) _) | (with_reducible refine ownsRow_setCell_other ?_ (by simp [Value.ownBlock]; omega) _) | (simp; done) | (simp; omega) | omega)
        · (repeat' (first | (with_reducible exact Below.refl _ _) | (with_reducible assumption) | (with_reducible refine Below.drewN ?_ _) | (with_reducible refine Below.alloc ?_ ?_ _) | (with_reducible refine Below.drew ?_) | (with_reducible refine Below.setCell ?_ ?_ _) | (with_reducible refine Below.step (by assumption) ?_ ?_) | (with_reducible exact And.left (by assumption)) | go_size))
    · go_wp2
      go_meet
      case rel =>
        have hs1 := HS1.out
        have hs2 := HS2.out
        refine ⟨w6.heap.size + 1, w6.heap.size, w6.heap.size + 1 + 1, rfl, by go_simp, by go_simp, Lib.hid ?_, Lib.hid ?_, by omega, by omega, by omega, by omega, (by simp <;> omega), Lib.hid ?_⟩
        · rw [HL1.out]
          repeat' (first | (with_reducible assumption) | ((with_reducible refine owns_lit ?_ ?_ ?_ ?_) <;> first | (simp; done) | (simp; omega) | omega) | (with_reducible refine World.ownsRow.alloc ?_ _) | (with_reducible refine World.ownsRow.drew ?_) | (with_reducible refine owns_drewN ?_ _) | (with_reducible refine ownsRow_setCell_other ?_ (by simp [Value.ownBlock]) _) | (with_reducible refine ownsRow_setCell_other ?_ (by simp [Value.ownBlock]; omega) _) | (simp; done) | (simp; omega) | omega)
        · rw [HL2.out]
          repeat' (first | (with_reducible assumption) | ((with_reducible refine owns_lit ?_ ?_ ?_ ?_) <;> first | (simp; done) | (simp; omega) | omega) | (with_reducible refine World.ownsRow.alloc ?_ _) | (with_reducible refine World.ownsRow.drew ?_) | (with_reducible refine owns_drewN ?_ _) | (with_reducible refine ownsRow_setCell_other ?_ (by simp [Value.ownBlock]) _) | (with_reducible refine ownsRow_setCell_other ?_ (by simp [Value.ownBlock]; omega) _) | (simp; done) | (simp; omega) | omega)
        · (repeat' (first | (with_reducible exact Below.refl _ _) | (with_reducible assumption) | (with_reducible refine Below.drewN ?_ _) | (with_reducible refine Below.alloc ?_ ?_ _) | (with_reducible refine Below.drew ?_) | (with_reducible refine Below.setCell ?_ ?_ _) | (with_reducible refine Below.step (by assumption) ?_ ?_) | (with_reducible exact And.left (by assumption)) | go_size))
    · go_wp2
      go_meet
      case rel =>
        have hs1 := HS1.out
        have hs2 := HS2.out
        refine ⟨w6.heap.size + 1 + 1, w6.heap.size + 1, w6.heap.size, rfl, by go_simp, by go_simp, Lib.hid ?_, Lib.hid ?_, by omega, by omega, by omega, by omega, (by simp <;> omega), Lib.hid ?_⟩
        · rw [HL1.out]
          repeat' (first | (with_reducible assumption) | ((with_reducible refine owns_lit ?_ ?_ ?_ ?_) <;> first | (simp; done) | (simp; omega) | omega) | (with_reducible refine World.ownsRow.alloc ?_ _) | (with_reducible refine World.ownsRow.drew ?_) | (with_reducible refine owns_drewN ?_ _) | (with_reducible refine ownsRow_setCell_other ?_ (by simp [Value.ownBlock]) _) | (with_reducible refine ownsRow_setCell_other ?_ (by simp [Value.ownBlock]; omega) _) | (simp; done) | (simp; omega) | omega)
        · rw [HL2.out]
          repeat' (first | (with_reducible assumption) | ((with_reducible refine owns_lit ?_ ?_ ?_ ?_) <;> first | (simp; done) | (simp; omega) | omega) | (with_reducible refine World.ownsRow.alloc ?_ _) | (with_reducible refine World.ownsRow.drew ?_) | (with_reducible refine owns_drewN ?_ _) | (with_reducible refine ownsRow_setCell_other ?_ (by simp [Value.ownBlock]) _) | (with_reducible refine ownsRow_setCell_other ?_ (by simp [Value.ownBlock]; omega) _) | (simp; done) | (simp; omega) | omega)
        · (repeat' (first | (with_reducible exact Below.refl _ _) | (with_reducible assumption) | (with_reducible refine Below.drewN ?_ _) | (with_reducible refine Below.alloc ?_ ?_ _) | (with_reducible refine Below.drew ?_) | (with_reducible refine Below.setCell ?_ ?_ _) | (with_reducible refine Below.step (by assumption) ?_ ?_) | (with_reducible exact And.left (by assumption)) | go_size))
    · go_wp2
      go_meet
      case rel =>
        have hs1 := HS1.out
        have hs2 := HS2.out
        refine ⟨w6.heap.size + 1, w6.heap.size + 1 + 1, w6.heap.size, rfl, by go_simp, by go_simp, Lib.hid ?_, Lib.hid ?_, by omega, by omega, by omega, by omega, (by simp <;> omega), Lib.hid ?_⟩
        · rw [HL1.out]
          repeat' (first | (with_reducible assumption) | ((with_reducible refine owns_lit ?_ ?_ ?_ ?_) <;> first | (simp; done) | (simp; omega) | omega) | (with_reducible refine World.ownsRow.alloc ?_ _) | (with_reducible refine World.ownsRow.drew ?_) | (with_reducible refine owns_drewN ?_ _) | (with_reducible refine ownsRow_setCell_other ?_ (by simp [Value.ownBlock]) _) | (with_reducible refine ownsRow_setCell_other ?_ (by simp [Value.ownBlock]; omega) _) | (simp; done) | (simp; omega) | omega)
        · rw [HL2.out]
          repeat' (first | (with_reducible assumption) | ((with_reducible refine owns_lit ?_ ?_ ?_ ?_) <;> first | (simp; done) | (simp; omega) | omega) | (with_reducible refine World.ownsRow.alloc ?_ _) | (with_reducible refine World.ownsRow.drew ?_) | (with_reducible refine owns_drewN ?_ _) | (with_reducible refine ownsRow_setCell_other ?_ (by simp [Value.ownBlock]) _) | (with_reducible refine ownsRow_setCell_other ?_ (by simp [Value.ownBlock]; omega) _) | (simp; done) | (simp; omega) | omega)
        · (repeat' (first | (with_reducible exact Below.refl _ _) | (with_reducible assumption) | (with_reducible refine Below.drewN ?_ _) | (with_reducible refine Below.alloc ?_ ?_ _) | (with_reducible refine Below.drew ?_) | (with_reducible refine Below.setCell ?_ ?_ _) | (with_reducible refine Below.step (by assumption) ?_ ?_) | (with_reducible exact And.left (by assumption)) | go_size))
    · go_wp2
      go_meet
      case rel =>
        have hs1 := HS1.out
        have hs2 := HS2.out
        refine ⟨w6.heap.size, w6.heap.size + 1, w6.heap.size + 1 + 1, rfl, by go_simp, by go_simp, Lib.hid ?_, Lib.hid ?_, by omega, by omega, by omega, by omega, (by simp <;> omega), Lib.hid ?_⟩
        · rw [HL1.out]
          repeat' (first | (with_reducible assumption) | ((with_reducible refine owns_lit ?_ ?_ ?_ ?_) <;> first | (simp; done) | (simp; omega) | omega) | (with_reducible refine World.ownsRow.alloc ?_ _) | (with_reducible refine World.ownsRow.drew ?_) | (with_reducible refine owns_drewN ?_ _) | (with_reducible refine ownsRow_setCell_other ?_ (by simp [Value.ownBlock]) _) | (with_reducible refine ownsRow_setCell_other ?_ (by simp [Value.ownBlock]; omega) _) | (simp; done) | (simp; omega) | omega)
        · rw [HL2.out]
          repeat' (first | (with_reducible assumption) | ((with_reducible refine owns_lit ?_ ?_ ?_ ?_) <;> first | (simp; done) | (simp; omega) | omega) | (with_reducible refine World.ownsRow.alloc ?_ _) | (with_reducible refine World.ownsRow.drew ?_) | (with_reducible refine owns_drewN ?_ _) | (with_reducible refine ownsRow_setCell_other ?_ (by simp [Value.ownBlock]) _) | (with_reducible refine ownsRow_setCell_other ?_ (by simp [Value.ownBlock]; omega) _) | (simp; done) | (simp; omega) | omega)
        · (repeat' (first | (with_reducible exact Below.refl _ _) | (with_reducible assumption) | (with_reducible refine Below.drewN ?_ _) | (with_reducible refine Below.alloc ?_ ?_ _) | (with_reducible refine Below.drew ?_) | (with_reducible refine Below.setCell ?_ ?_ _) | (with_reducible refine Below.step (by assumption) ?_ ?_) | (with_reducible exact And.left (by assumption)) | go_size))
    · go_wp2
      go_meet
      case rel =>
        have hs1 := HS1.out
        have hs2 := HS2.out
        refine ⟨w6.heap.size, w6.heap.size + 1 + 1, w6.heap.size + 1, rfl, by go_simp, by go_simp, Lib.hid ?_, Lib.hid ?_, by omega, by omega, by omega, by omega, (by simp <;> omega), Lib.hid ?_⟩
        · rw [HL1.out]
          repeat' (first | (with_reducible assumption) | ((with_reducible refine owns_lit ?_ ?_ ?_ ?_) <;> first | (simp; done) | (simp; omega) | omega) | (with_reducible refine World.ownsRow.alloc ?_ _) | (with_reducible refine World.ownsRow.drew ?_) | (with_reducible refine owns_drewN ?_ _) | (with_reducible refine ownsRow_setCell_other ?_ (by simp [Value.ownBlock]) _) | (with_reducible refine ownsRow_setCell_other ?_ (by simp [Value.ownBlock]; omega) _) | (simp; done) | (simp; omega) | omega)
        · rw [HL2.out]
          repeat' (first | (with_reducible assumption) | ((with_reducible refine owns_lit ?_ ?_ ?_ ?_) <;> first | (simp; done) | (simp; omega) | omega) | (with_reducible refine World.ownsRow.alloc ?_ _) | (with_reducible refine World.ownsRow.drew ?_) | (with_reducible refine owns_drewN ?_ _) | (with_reducible refine ownsRow_setCell_other ?_ (by simp [Value.ownBlock]) _) | (with_reducible refine ownsRow_setCell_other ?_ (by simp [Value.ownBlock]; omega) _) | (simp; done) | (simp; omega) | omega)
        · (repeat' (first | (with_reducible exact Below.refl _ _) | (with_reducible assumption) | (with_reducible refine Below.drewN ?_ _) | (with_reducible refine Below.alloc ?_ ?_ _) | (with_reducible refine Below.drew ?_) | (with_reducible refine Below.setCell ?_ ?_ _) | (with_reducible refine Below.step (by assumption) ?_ ?_) | (with_reducible exact And.left (by assumption)) | go_size))
  case rest =>
    obtain ⟨X8, g1, g2, rfl, x0, x1, HN, HG, hne, hx1, hx2, hx6, hxl, HBc⟩ := hcut
    have hg1 := HN.out.lt g1 rfl
    have hg2 := HG.out.lt g2 rfl
    have hbx := HBc.out
    have hzc := hbx.size
    have q0 : wc.cell? ⟨w.heap.size, 0, none⟩ = some (.slice a n c) := by { rw [cellB hbx _ _ (by first | (simp; done) | (simp; omega) | omega)]; all_goals (first | assumption | go_simp) }; have q1 : wc.cell? ⟨w.heap.size, 1, none⟩ = some (.bool e) := by { rw [cellB hbx _ _ (by first | (simp; done) | (simp; omega) | omega)]; all_goals (first | assumption | go_simp) }; have p0 : wc.cell? ⟨w.heap.size + 1, 0, none⟩ = some (.slice none 0 0) := by { rw [cellB hbx _ _ (by first | (simp; done) | (simp; omega) | omega)]; all_goals (first | assumption | go_simp) }; have p1 : wc.cell? ⟨w.heap.size + 1, 1, none⟩ = some (.slice none 0 0) := by { rw [cellB hbx _ _ (by first | (simp; done) | (simp; omega) | omega)]; all_goals (first | assumption | go_simp) }; have f0 : wc.frozen? ⟨w.heap.size + 1, 0, none⟩ = false := by { rw [frozenB hbx _ _ (by first | (simp; done) | (simp; omega) | omega)]; all_goals (first | assumption | go_simp) }; have f1 : wc.frozen? ⟨w.heap.size + 1, 1, none⟩ = false := by { rw [frozenB hbx _ _ (by first | (simp; done) | (simp; omega) | omega)]; all_goals (first | assumption | go_simp) }; have l0 : w.heap.size < wc.heap.size := by { omega }; have l1 : w.heap.size + 1 < wc.heap.size := by { omega }
    have HBW := Lib.hid (HB6.out.trans (hbx.mono HB6.out.size))
    clear hbx HL1 HL2 HS1 HS2 hmk1 hmk2
    go_wp2_with fail
    refine (begin_any a n c e wc (by omega)).mono ?_
    rintro e7 w7 ⟨g3, g4, rfl, hb7, hg34, ho3, ho4⟩
    have hg3 := ho3.lt g3 rfl
    have hg4 := ho4.lt g4 rfl
    go_wp2_with fail
    generalize hW : w7.alloc (Obj.cells #[.slice (some ⟨g3, 0, none⟩) n n, .slice (some ⟨g4, 0, none⟩) n n] 67) = w8
    have hb8 : Below w7.heap.size w7 w8 := by rw [← hW]; (repeat' (first | (with_reducible exact Below.refl _ _) | (with_reducible assumption) | (with_reducible refine Below.drewN ?_ _) | (with_reducible refine Below.alloc ?_ ?_ _) | (with_reducible refine Below.drew ?_) | (with_reducible refine Below.setCell ?_ ?_ _) | (with_reducible refine Below.step (by assumption) ?_ ?_) | (with_reducible exact And.left (by assumption)) | go_size))
    have y0 : w8.cell? ⟨w7.heap.size, 0, none⟩ = some (.slice (some ⟨g3, 0, none⟩) n n) := by { rw [← hW]; clear hW; go_simp }
    have y1 : w8.cell? ⟨w7.heap.size, 1, none⟩ = some (.slice (some ⟨g4, 0, none⟩) n n) := by { rw [← hW]; clear hW; go_simp }
    have fy0 : w8.frozen? ⟨w7.heap.size, 0, none⟩ = false := by { rw [← hW]; clear hW; go_simp }
    have fy1 : w8.frozen? ⟨w7.heap.size, 1, none⟩ = false := by { rw [← hW]; clear hW; go_simp }
    have ly : w7.heap.size < w8.heap.size := by { rw [← hW]; simp }
    have hbx := hb7.trans (hb8.mono hb7.size)
    have hz8 := hbx.size
    have hz7 := hb7.size
    have x0' : w8.cell? ⟨X8, 0, none⟩ = some (.slice (some ⟨g1, 0, none⟩) (n + 1) (n + 1)) := by rw [cellB hbx _ _ (by omega)]; exact x0
    have x1' : w8.cell? ⟨X8, 1, none⟩ = some (.slice (some ⟨g2, 0, none⟩) n n) := by rw [cellB hbx _ _ (by omega)]; exact x1
    have HN8 := Lib.hid (owns_below HN.out hbx (fun k hk => (HN.out.lt k hk).2))
    have HG8 := Lib.hid (owns_below HG.out hbx (fun k hk => (HG.out.lt k hk).2))
    have HF8 := Lib.hid (owns_below ho3 hb8 (fun k hk => (ho3.lt k hk).2))
    have HB8 := Lib.hid (owns_below ho4 hb8 (fun k hk => (ho4.lt k hk).2))
    have HBc8 := Lib.hid (HBc.out.trans (hbx.mono hzc))
    have hB9 : wc.heap.size ≤ w7.heap.size := by omega
    clear hbx hb8 hb7 hW ho3 ho4 HN HG x0 x1 HBc hz7 q0 q1 p0 p1 f0 f1 l0 l1
    generalize w7.heap.size = X9 at *
    clear hz8
    have l6 : w.heap.size + 1 < w6.heap.size := l1c
    go_loopw [42] (fun i wr => ∃ (k : Nat) (f b N G : List Int) (g5 g6 : Nat), i = .int .i64 k ∧ k ≤ m ∧ Hid (pkGo y e (src.drop k) f b N G = R0) ∧ Hid (stErr y f b = 0) ∧ Hid (N.length = n + 1 ∧ G.length = n)
      ∧ wr.cell? ⟨X9, 0, none⟩ = some (.slice (some ⟨g5, 0, none⟩) n n) ∧ wr.cell? ⟨X9, 1, none⟩ = some (.slice (some ⟨g6, 0, none⟩) n n) ∧ wr.frozen? ⟨X9, 0, none⟩ = false ∧ wr.frozen? ⟨X9, 1, none⟩ = false ∧ X9 < wr.heap.size
      ∧ Hid (wr.ownsRow (wc.heap.size) 3 1 (.slice (some ⟨g5, 0, none⟩) (n) (n)) (n) (icells (f))) ∧ Hid (wr.ownsRow (wc.heap.size) 3 1 (.slice (some ⟨g6, 0, none⟩) (n) (n)) (n) (icells (b))) ∧ Hid (wr.ownsRow (w6.heap.size) 3 1 (.slice (some ⟨g1, 0, none⟩) (n + 1) (n + 1)) (n + 1) (icells (N))) ∧ Hid (wr.ownsRow (w6.heap.size) 3 1 (.slice (some ⟨g2, 0, none⟩) (n) (n)) (n) (icells (G)))
      ∧ wr.cell? ⟨X8, 0, none⟩ = some (.slice (some ⟨g1, 0, none⟩) (n + 1) (n + 1)) ∧ wr.cell? ⟨X8, 1, none⟩ = some (.slice (some ⟨g2, 0, none⟩) n n) ∧ Hid (Below w6.heap.size w6 wr)) (fun i _ => m - (intOf i).toNat)
    case atStart => exact ⟨0, _, _, _, _, g3, g4, rfl, Nat.zero_le _, Lib.hid (by rw [List.drop_zero]; exact HR0.out.symm), HST, Lib.hid ⟨by simp, by simp⟩, y0, y1, fy0, fy1, ly, HF8, HB8, HN8, HG8, x0', x1', HBc8⟩
    case round =>
      obtain ⟨k, f, b, N, G, g5, g6, rfl, hk, HR, HSE, HLN, y0r, y1r, fy0r, fy1r, lyr, HF, HB, HN, HG, x0, x1, HBr⟩ := hrel
      clear x0' x1' y0 y1 fy0 fy1 ly HN8 HG8 HF8 HB8 HBc8
      have hbx := HBr.out
      have hzr := hbx.size
      have q0 : wr.cell? ⟨w.heap.size, 0, none⟩ = some (.slice a n c) := by { rw [cellB hbx _ _ (by first | (simp; done) | (simp; omega) | omega)]; all_goals (first | assumption | go_simp) }; have q1 : wr.cell? ⟨w.heap.size, 1, none⟩ = some (.bool e) := by { rw [cellB hbx _ _ (by first | (simp; done) | (simp; omega) | omega)]; all_goals (first | assumption | go_simp) }; have p0 : wr.cell? ⟨w.heap.size + 1, 0, none⟩ = some (.slice none 0 0) := by { rw [cellB hbx _ _ (by first | (simp; done) | (simp; omega) | omega)]; all_goals (first | assumption | go_simp) }; have p1 : wr.cell? ⟨w.heap.size + 1, 1, none⟩ = some (.slice none 0 0) := by { rw [cellB hbx _ _ (by first | (simp; done) | (simp; omega) | omega)]; all_goals (first | assumption | go_simp) }; have f0 : wr.frozen? ⟨w.heap.size + 1, 0, none⟩ = false := by { rw [frozenB hbx _ _ (by first | (simp; done) | (simp; omega) | omega)]; all_goals (first | assumption | go_simp) }; have f1 : wr.frozen? ⟨w.heap.size + 1, 1, none⟩ = false := by { rw [frozenB hbx _ _ (by first | (simp; done) | (simp; omega) | omega)]; all_goals (first | assumption | go_simp) }; have l0 : w.heap.size < wr.heap.size := by { omega }; have l1 : w.heap.size + 1 < wr.heap.size := by { omega }
      have HBw := Lib.hid (HB6.out.trans (hbx.mono HB6.out.size))
      clear hbx q0c q1c p0c p1c f0c f1c l0c l1c
      rcases Nat.lt_or_ge k m with hlt | hge
      · obtain ⟨bs, os, rfl, hbs, hcs⟩ := HS.out.addr (by omega)
        obtain ⟨s, hsdef⟩ : ∃ s, s = g0 src k := ⟨_, rfl⟩
        have cs : wr.cell? ⟨bs, os + k, none⟩ = some (.int .i64 s) := by rw [cellB HBw.out _ _ hbs, hsdef]; exact hcs k hlt
        have hR := HR.out
        rw [pk_drop (by rw [HS.out.len]; exact hlt), ← hsdef] at hR
        have HRR := Lib.hid hR
        have i2 : (0 : Int) ≤ (k : Int) := by omega
        have i3 : (k : Int) < (m : Int) := by omega
        clear hR HR hcs hsdef
        go_wp2_with fail
        refine (step_p y f b s _ _ _ n c n n e wr (HY.out.below HBw.out) (SlR.of_owns HF.out) (SlR.of_owns HB.out) HSE.out (by omega)).mono ?_
        rintro e9 w9 ⟨hb9, hcase⟩
        have hz9 := hb9.size
        rcases hcase with ⟨hE, rfl⟩ | ⟨hE, g7, g8, gv, cv, rfl, hF, hB, hV⟩
        · have hR := HRR.out
          rw [if_neg hE] at hR
          obtain ⟨E, hEE⟩ : ∃ E, E = pE y f b s e := ⟨_, rfl⟩
          rw [← hEE] at hR hE ⊢
          have hE1 : (E != 0) = true := by simpa using hE
          have HRz := Lib.hid hR
          have q0c : w9.cell? ⟨w.heap.size, 0, none⟩ = some (.slice a n c) := by { rw [cellB hb9 _ _ (by first | (simp; done) | (simp; omega) | omega)]; all_goals (first | assumption | go_simp) }; have q1c : w9.cell? ⟨w.heap.size, 1, none⟩ = some (.bool e) := by { rw [cellB hb9 _ _ (by first | (simp; done) | (simp; omega) | omega)]; all_goals (first | assumption | go_simp) }; have p0c : w9.cell? ⟨w.heap.size + 1, 0, none⟩ = some (.slice none 0 0) := by { rw [cellB hb9 _ _ (by first | (simp; done) | (simp; omega) | omega)]; all_goals (first | assumption | go_simp) }; have p1c : w9.cell? ⟨w.heap.size + 1, 1, none⟩ = some (.slice none 0 0) := by { rw [cellB hb9 _ _ (by first | (simp; done) | (simp; omega) | omega)]; all_goals (first | assumption | go_simp) }; have f0c : w9.frozen? ⟨w.heap.size + 1, 0, none⟩ = false := by { rw [frozenB hb9 _ _ (by first | (simp; done) | (simp; omega) | omega)]; all_goals (first | assumption | go_simp) }; have f1c : w9.frozen? ⟨w.heap.size + 1, 1, none⟩ = false := by { rw [frozenB hb9 _ _ (by first | (simp; done) | (simp; omega) | omega)]; all_goals (first | assumption | go_simp) }; have l0c : w.heap.size < w9.heap.size := by { omega }; have l1c : w.heap.size + 1 < w9.heap.size := by { omega }
          have HBz := Lib.hid (HBw.out.trans (hb9.mono HBw.out.size))
          have hnw : w.heap.size + 1 ≠ w9.heap.size := by omega
          clear hR hEE hE hb9 q0 q1 p0 p1 f0 f1 l0 l1 x0 x1 y0r y1r fy0r fy1r cs
          go_wp2
          refine bodyPost_ret (v := .tuple #[.agg #[.slice none 0 0, .slice none 0 0], .int .i64 E]) (by simp [results, Try.results29, go_sem, World.cell?_alloc_old, hnw, p0c, p1c]) rfl ⟨?_, none, 0, 0, none, 0, 0, by rw [HPK.out, ← HRz.out], ?_, ?_⟩
          · have := HBz.out
            (repeat' (first | (with_reducible exact Below.refl _ _) | (with_reducible assumption) | (with_reducible refine Below.drewN ?_ _) | (with_reducible refine Below.alloc ?_ ?_ _) | (with_reducible refine Below.drew ?_) | (with_reducible refine Below.setCell ?_ ?_ _) | (with_reducible refine Below.step (by assumption) ?_ ?_) | (with_reducible exact And.left (by assumption)) | go_size))
          · rw [HPK.out, ← HRz.out]; exact IntsR.nil _ _
          · rw [HPK.out, ← HRz.out]; exact IntsR.nil _ _
        · have hR := HRR.out
          rw [if_pos hE] at hR
          obtain ⟨hws, _, hst⟩ := pE_zero hE
          have hbd := outV_bd (e := e) HSE.out hws
          have hvl := outV_len y f b s e (by rw [HY.out.len]; exact hn0)
          rw [HY.out.len] at hR hvl
          have HRR := Lib.hid hR
          have HSE2 := Lib.hid hst
          have HVB := Lib.hid hbd
          have HVL := Lib.hid hvl
          clear hR hws hst hbd hvl hE
          generalize outV y f b s e = V at hV HRR HVB HVL
          generalize outF y f b s = f2 at hF HRR HSE2
          generalize outB y f b e = b2 at hB HRR HSE2
          have hg7 := hF.lt g7 rfl
          have hg8 := hB.lt g8 rfl
          have hgv := hV.lt gv rfl
          go_wp2_with fail
          generalize hW : w9.alloc (Obj.cells #[.slice (some ⟨g7, 0, none⟩) n n, .slice (some ⟨g8, 0, none⟩) n n] 67) = w10
          have hb10 : Below w9.heap.size w9 w10 := by rw [← hW]; (repeat' (first | (with_reducible exact Below.refl _ _) | (with_reducible assumption) | (with_reducible refine Below.drewN ?_ _) | (with_reducible refine Below.alloc ?_ ?_ _) | (with_reducible refine Below.drew ?_) | (with_reducible refine Below.setCell ?_ ?_ _) | (with_reducible refine Below.step (by assumption) ?_ ?_) | (with_reducible exact And.left (by assumption)) | go_size))
          have z0 : w10.cell? ⟨w9.heap.size, 0, none⟩ = some (.slice (some ⟨g7, 0, none⟩) n n) := by { rw [← hW]; clear hW; go_simp }
          have z1 : w10.cell? ⟨w9.heap.size, 1, none⟩ = some (.slice (some ⟨g8, 0, none⟩) n n) := by { rw [← hW]; clear hW; go_simp }
          have lz : w9.heap.size < w10.heap.size := by { rw [← hW]; simp }
          have hbx := hb9.trans (hb10.mono hz9)
          have hz10 := hbx.size
          have q0c : w10.cell? ⟨w.heap.size, 0, none⟩ = some (.slice a n c) := by { rw [cellB hbx _ _ (by first | (simp; done) | (simp; omega) | omega)]; all_goals (first | assumption | go_simp) }; have q1c : w10.cell? ⟨w.heap.size, 1, none⟩ = some (.bool e) := by { rw [cellB hbx _ _ (by first | (simp; done) | (simp; omega) | omega)]; all_goals (first | assumption | go_simp) }; have p0c : w10.cell? ⟨w.heap.size + 1, 0, none⟩ = some (.slice none 0 0) := by { rw [cellB hbx _ _ (by first | (simp; done) | (simp; omega) | omega)]; all_goals (first | assumption | go_simp) }; have p1c : w10.cell? ⟨w.heap.size + 1, 1, none⟩ = some (.slice none 0 0) := by { rw [cellB hbx _ _ (by first | (simp; done) | (simp; omega) | omega)]; all_goals (first | assumption | go_simp) }; have f0c : w10.frozen? ⟨w.heap.size + 1, 0, none⟩ = false := by { rw [frozenB hbx _ _ (by first | (simp; done) | (simp; omega) | omega)]; all_goals (first | assumption | go_simp) }; have f1c : w10.frozen? ⟨w.heap.size + 1, 1, none⟩ = false := by { rw [frozenB hbx _ _ (by first | (simp; done) | (simp; omega) | omega)]; all_goals (first | assumption | go_simp) }; have l0c : w.heap.size < w10.heap.size := by { omega }; have l1c : w.heap.size + 1 < w10.heap.size := by { omega }
          have x0c : w10.cell? ⟨X8, 0, none⟩ = some (.slice (some ⟨g1, 0, none⟩) (n + 1) (n + 1)) := by { rw [cellB hbx _ _ (by first | (simp; done) | (simp; omega) | omega)]; all_goals (first | assumption | go_simp) }; have x1c : w10.cell? ⟨X8, 1, none⟩ = some (.slice (some ⟨g2, 0, none⟩) n n) := by { rw [cellB hbx _ _ (by first | (simp; done) | (simp; omega) | omega)]; all_goals (first | assumption | go_simp) }; have y0c : w10.cell? ⟨X9, 0, none⟩ = some (.slice (some ⟨g5, 0, none⟩) n n) := by { rw [cellB hbx _ _ (by first | (simp; done) | (simp; omega) | omega)]; all_goals (first | assumption | go_simp) }; have y1c : w10.cell? ⟨X9, 1, none⟩ = some (.slice (some ⟨g6, 0, none⟩) n n) := by { rw [cellB hbx _ _ (by first | (simp; done) | (simp; omega) | omega)]; all_goals (first | assumption | go_simp) }; have fy0c : w10.frozen? ⟨X9, 0, none⟩ = false := by { rw [frozenB hbx _ _ (by first | (simp; done) | (simp; omega) | omega)]; all_goals (first | assumption | go_simp) }; have fy1c : w10.frozen? ⟨X9, 1, none⟩ = false := by { rw [frozenB hbx _ _ (by first | (simp; done) | (simp; omega) | omega)]; all_goals (first | assumption | go_simp) }; have lyc : X9 < w10.heap.size := by { omega }
          have HNc := Lib.hid (owns_below HN.out hbx (fun k hk => (HN.out.lt k hk).2))
          have HGc := Lib.hid (owns_below HG.out hbx (fun k hk => (HG.out.lt k hk).2))
          have HFc := Lib.hid (owns_below hF hb10 (fun k hk => (hF.lt k hk).2))
          have HBb := Lib.hid (owns_below hB hb10 (fun k hk => (hB.lt k hk).2))
          have HVc := Lib.hid (owns_below hV hb10 (fun k hk => (hV.lt k hk).2))
          have HB10 := Lib.hid (HBr.out.trans (hbx.mono hzr))
          clear hbx hb9 hb10 hW hF hB hV HN HG HF HB HBr HBw q0 q1 p0 p1 f0 f1 l0 l1 x0 x1 y0r y1r fy0r fy1r cs
          generalize w9.heap.size = X12 at *
          go_loopw [60] (fun i wq => ∃ j : Nat, i = .int .i64 j ∧ j ≤ n + 1 ∧ Hid (wq.ownsRow (w6.heap.size) 3 1 (.slice (some ⟨g1, 0, none⟩) (n + 1) (n + 1)) (n + 1) (icells (mxAt N V j))) ∧ Hid (wq.ownsRow (w6.heap.size) 3 1 (.slice (some ⟨g2, 0, none⟩) (n) (n)) (n) (icells (mxAt G (gd V n) (j - 1)))) ∧ Hid (Two g1 g2 w10 wq)) (fun i _ => n + 1 - (intOf i).toNat)
          case atStart => exact ⟨0, rfl, Nat.zero_le _, by rw [mx_zero]; exact HNc, by rw [mx_zero]; exact HGc, Lib.hid (Two.refl _ _ _)⟩
          case round =>
            obtain ⟨j, rfl, hj, HNj, HGj, HT⟩ := hrel
            have hzq := HT.out.size
            have l0 := hzq ▸ l0c
            have x0 : wr.cell? ⟨X8, 0, none⟩ = some (.slice (some ⟨g1, 0, none⟩) (n + 1) (n + 1)) := by rw [HT.out.cell _ _ (by omega) (by omega)]; exact x0c
            have x1 : wr.cell? ⟨X8, 1, none⟩ = some (.slice (some ⟨g2, 0, none⟩) n n) := by rw [HT.out.cell _ _ (by omega) (by omega)]; exact x1c
            have i0 : (0 : Int) ≤ (j : Int) := by omega
            rcases Nat.lt_or_ge j (n + 1) with hlt2 | hge2
            · obtain ⟨U, hU⟩ : ∃ U, U = g0 V j := ⟨_, rfl⟩
              have cU : wr.cell? ⟨gv, j, none⟩ = some (.int .i64 U) := by rw [HT.out.cell _ _ (by omega) (by omega), HVc.out.cellAt j (by omega), icells_get (by rw [HVL.out]; omega), hU]
              have bU := HVB.out j
              rw [← hU] at bU
              obtain ⟨M, hM⟩ : ∃ M, M = g0 N j := ⟨_, rfl⟩
              have cM : wr.cell? ⟨g1, j, none⟩ = some (.int .i64 M) := by
                rw [HNj.out.cellAt j (by omega), icells_get (by rw [mx_len, HLN.out.1]; omega), hM]
                show some (Value.int .i64 (g0 (mxAt N V j) j)) = _
                rw [mx_get (by rw [HLN.out.1]; omega), if_neg (by omega)]
              have fM := HNj.out.frozenAt j
              have i1 : (j : Int) < (n : Int) + 1 := by omega
              have HUM := Lib.hid (And.intro hU hM)
              clear hU hM
              have hmx : (if M < sz U then sz U else M) = max M (sz U) := by rw [Int.max_def]; split <;> split <;> omega
              have hN2 := fun m1 => ((owns_drewN HNj.out m1).stored j (.int .i64 (max M (sz U)))).1
              simp only [icells_set', HUM.out.1, HUM.out.2, mx_set (N := N) (V := V) (j := j) (by rw [HLN.out.1]; omega)] at hN2
              rw [← HUM.out.1, ← HUM.out.2] at hN2
              have hG2 := fun m1 => ownsRow_setCell_other (owns_drewN HGj.out m1) (a := ⟨g1, j, none⟩) (by simp [Value.ownBlock]; omega) (.int .i64 (max M (sz U)))
              have hT2 : ∀ m1, Two g1 g2 w10 ((wr.drewN m1).setCell ⟨g1, j, none⟩ (.int .i64 (max M (sz U)))) := fun m1 => (HT.out.drewN m1).setCell (.inl rfl) _
              have HN2 := Lib.hid hN2
              have HG2 := Lib.hid hG2
              have HT2 := Lib.hid hT2
              have HMX := Lib.hid hmx
              clear hN2 hG2 hT2 hmx HNj HGj
              cases j with
              | zero =>
                go_wp2_with fail
                refine drew_of_eq 11 (by kernel_rfl) (by kernel_rfl) ?_; simp only [List.take_succ_cons, List.take_zero, List.drop_succ_cons, List.drop_zero]; repeat go_big_quiet_step (exact calls_drew_same (size_any _ _ (by omega) (by omega)))
                refine wpQuiet_nil ?_; intro m1
                go_wp2
                rw [HMX.out]
                go_roundw
                case rel => exact ⟨1, rfl, by omega, Lib.hid (HN2.out m1), Lib.hid (HG2.out m1), Lib.hid (HT2.out m1)⟩
                case measure => simp [intOf]
              | succ i =>
                obtain ⟨P, hP⟩ : ∃ P, P = g0 V i := ⟨_, rfl⟩
                have bP := HVB.out i
                rw [← hP] at bP
                have cP : wr.cell? ⟨gv, i, none⟩ = some (.int .i64 P) := by rw [HT.out.cell _ _ (by omega) (by omega), HVc.out.cellAt i (by omega), icells_get (by rw [HVL.out]; omega), hP]
                obtain ⟨K, hK⟩ : ∃ K, K = g0 G i := ⟨_, rfl⟩
                have cK : ∀ m1, ((wr.drewN m1).setCell ⟨g1, i + 1, none⟩ (.int .i64 (max M (sz U)))).cell? ⟨g2, i, none⟩ = some (.int .i64 K) := by
                  intro m1
                  have := (HG2.out m1).cellAt i (by omega)
                  rw [this, icells_get (by rw [mx_len, HLN.out.2]; omega), hK]
                  show some (Value.int .i64 (g0 (mxAt G (gd V n) (i + 1 - 1)) i)) = _
                  rw [mx_get (by rw [HLN.out.2]; omega), if_neg (by omega)]
                have HPK2 := Lib.hid (And.intro hP hK)
                have i5 : (0 : Int) < (i : Int) + 1 := by omega
                clear hP hK
                go_wp2_with fail
                refine drew_of_eq 11 (by kernel_rfl) (by kernel_rfl) ?_; simp only [List.take_succ_cons, List.take_zero, List.drop_succ_cons, List.drop_zero]; repeat go_big_quiet_step (exact calls_drew_same (size_any _ _ (by omega) (by omega)))
                refine wpQuiet_nil ?_; intro m1
                rw [HMX.out]
                go_wp2
                generalize hW : (wr.drewN m1).setCell ⟨g1, i + 1, none⟩ (.int .i64 (max M (sz U))) = wm
                have hN3 := HN2.out m1
                have hG3 := HG2.out m1
                have hT3 := HT2.out m1
                have cKm := cK m1
                rw [hW] at hN3 hG3 hT3 cKm
                have cPm : wm.cell? ⟨gv, i, none⟩ = some (.int .i64 P) := by rw [hT3.cell _ _ (by omega) (by omega), ← HT.out.cell _ _ (by omega) (by omega)]; exact cP
                have x1m : wm.cell? ⟨X8, 1, none⟩ = some (.slice (some ⟨g2, 0, none⟩) n n) := by rw [hT3.cell _ _ (by omega) (by omega)]; exact x1c
                have fKm := hG3.frozenAt i
                have HN3 := Lib.hid hN3
                have HG3 := Lib.hid hG3
                have HT3 := Lib.hid hT3
                have hmx : (if K < sz (P - U) then sz (P - U) else K) = max K (sz (P - U)) := by rw [Int.max_def]; split <;> split <;> omega
                have HMX2 := Lib.hid hmx
                have i3 : (i : Int) < (n : Int) := by omega
                have i4 : (0 : Int) ≤ (i : Int) := by omega
                clear hN3 hG3 hT3 hW HN2 HG2 HT2 HMX cK hmx cU cM fM x0 x1 cP HT
                go_wp2_with fail
                refine drew_of_eq 19 (by kernel_rfl) (by kernel_rfl) ?_; simp only [List.take_succ_cons, List.take_zero, List.drop_succ_cons, List.drop_zero]; repeat go_big_quiet_step (exact calls_drew_same (size_any _ _ (by omega) (by omega)))
                refine wpQuiet_nil ?_; intro m2
                go_wp2
                rw [HMX2.out]
                have hN4 := ownsRow_setCell_other (owns_drewN HN3.out m2) (a := ⟨g2, i, none⟩) (by simp [Value.ownBlock]; omega) (.int .i64 (max K (sz (P - U))))
                have hG4 := ((owns_drewN HG3.out m2).stored i (.int .i64 (max K (sz (P - U))))).1
                have hT4 : Two g1 g2 w10 ((wm.drewN m2).setCell ⟨g2, i, none⟩ (.int .i64 (max K (sz (P - U))))) := (HT3.out.drewN m2).setCell (.inr rfl) _
                rw [icells_set', show P - U = g0 (gd V n) i by rw [gd_get (by omega), HPK2.out.1, HUM.out.1], HPK2.out.2, Nat.add_sub_cancel, mx_set (by rw [HLN.out.2]; omega), ← HPK2.out.2, show g0 (gd V n) i = P - U by rw [gd_get (by omega), HPK2.out.1, HUM.out.1]] at hG4
                go_roundw
                case rel => exact ⟨i + 2, by go_num, by omega, Lib.hid hN4, Lib.hid hG4, Lib.hid hT4⟩
                case measure => simp [intOf]; omega
            · obtain rfl : j = n + 1 := by omega
              have hT := HT.out
              have z0r : wr.cell? ⟨X12, 0, none⟩ = some (.slice (some ⟨g7, 0, none⟩) n n) := by rw [hT.cell _ _ (by omega) (by omega)]; exact z0
              have z1r : wr.cell? ⟨X12, 1, none⟩ = some (.slice (some ⟨g8, 0, none⟩) n n) := by rw [hT.cell _ _ (by omega) (by omega)]; exact z1
              have y0r : wr.cell? ⟨X9, 0, none⟩ = some (.slice (some ⟨g5, 0, none⟩) n n) := by rw [hT.cell _ _ (by omega) (by omega)]; exact y0c
              have y1r : wr.cell? ⟨X9, 1, none⟩ = some (.slice (some ⟨g6, 0, none⟩) n n) := by rw [hT.cell _ _ (by omega) (by omega)]; exact y1c
              have fy0r : wr.frozen? ⟨X9, 0, none⟩ = false := by rw [hT.frozen _ _ (by omega) (by omega)]; exact fy0c
              have fy1r : wr.frozen? ⟨X9, 1, none⟩ = false := by rw [hT.frozen _ _ (by omega) (by omega)]; exact fy1c
              have lyr2 : X9 < wr.heap.size := by omega
              have HF9 := Lib.hid (owns_mono (base' := wc.heap.size) (ownsRow_setCell_below (ownsRow_setCell_below (hT.owns HFc.out (by omega) (by omega)) (a := ⟨X9, 0, none⟩) (by simp; omega) (.slice (some ⟨g7, 0, none⟩) n n)) (a := ⟨X9, 1, none⟩) (by simp; omega) (.slice (some ⟨g8, 0, none⟩) n n)) (by omega))
              have HB9 := Lib.hid (owns_mono (base' := wc.heap.size) (ownsRow_setCell_below (ownsRow_setCell_below (hT.owns HBb.out (by omega) (by omega)) (a := ⟨X9, 0, none⟩) (by simp; omega) (.slice (some ⟨g7, 0, none⟩) n n)) (a := ⟨X9, 1, none⟩) (by simp; omega) (.slice (some ⟨g8, 0, none⟩) n n)) (by omega))
              have HN9 := Lib.hid (ownsRow_setCell_other (ownsRow_setCell_other HNj.out (a := ⟨X9, 0, none⟩) (by simp [Value.ownBlock]; omega) (.slice (some ⟨g7, 0, none⟩) n n)) (a := ⟨X9, 1, none⟩) (by simp [Value.ownBlock]; omega) (.slice (some ⟨g8, 0, none⟩) n n))
              have HG9 := Lib.hid (ownsRow_setCell_other (ownsRow_setCell_other HGj.out (a := ⟨X9, 0, none⟩) (by simp [Value.ownBlock]; omega) (.slice (some ⟨g7, 0, none⟩) n n)) (a := ⟨X9, 1, none⟩) (by simp [Value.ownBlock]; omega) (.slice (some ⟨g8, 0, none⟩) n n))
              have HBB := Lib.hid (HB10.out.trans (hT.below (B := w6.heap.size) (by omega) (by omega)))
              clear hT HT HNj HGj
              go_wp2
              go_roundw
              case rel =>
                refine ⟨k + 1, f2, b2, _, _, g7, g8, by go_num, by omega, HRR, HSE2, Lib.hid ⟨by rw [mx_len]; exact HLN.out.1, by rw [mx_len]; exact HLN.out.2⟩, by go_simp, by go_simp, by go_simp, by go_simp, by simpa using lyr2, HF9, HB9, HN9, HG9, ?_, ?_, Lib.hid ?_⟩
                · rw [World.cell?_setCell_other _ ⟨X9, 1, none⟩ ⟨X8, 0, none⟩ _ (by simp <;> omega), World.cell?_setCell_other _ ⟨X9, 0, none⟩ ⟨X8, 0, none⟩ _ (by simp <;> omega)]; exact x0
                · rw [World.cell?_setCell_other _ ⟨X9, 1, none⟩ ⟨X8, 1, none⟩ _ (by simp <;> omega), World.cell?_setCell_other _ ⟨X9, 0, none⟩ ⟨X8, 1, none⟩ _ (by simp <;> omega)]; exact x1
                · have := HBB.out
                  (repeat' (first | (with_reducible exact Below.refl _ _) | (with_reducible assumption) | (with_reducible refine Below.drewN ?_ _) | (with_reducible refine Below.alloc ?_ ?_ _) | (with_reducible refine Below.drew ?_) | (with_reducible refine Below.setCell ?_ ?_ _) | (with_reducible refine Below.step (by assumption) ?_ ?_) | (with_reducible exact And.left (by assumption)) | go_size))
              case measure => simp [intOf]; omega
      · obtain rfl : m = k := by omega
        have hR := HR.out
        rw [List.drop_eq_nil_of_le (by rw [HS.out.len]; exact Nat.le_refl _)] at hR
        have HRz := Lib.hid (show R0 = (0, N, G) from hR.symm)
        clear hR HR
        go_wp2
        refine bodyPost_ret (v := .tuple #[.agg #[.slice (some ⟨g1, 0, none⟩) (n + 1) (n + 1), .slice (some ⟨g2, 0, none⟩) n n], .int .i64 0]) (by simp [results, Try.results29, go_sem, p0, p1]) rfl ⟨?_, _, _, _, _, _, _, by rw [HPK.out, HRz.out], ?_, ?_⟩
        · have := HBw.out
          (repeat' (first | (with_reducible exact Below.refl _ _) | (with_reducible assumption) | (with_reducible refine Below.drewN ?_ _) | (with_reducible refine Below.alloc ?_ ?_ _) | (with_reducible refine Below.drew ?_) | (with_reducible refine Below.setCell ?_ ?_ _) | (with_reducible refine Below.step (by assumption) ?_ ?_) | (with_reducible exact And.left (by assumption)) | go_size))
        · rw [HPK.out, HRz.out]
          exact SlR.of_owns (ownsRow_setCell_below (ownsRow_setCell_below HN.out (a := ⟨w.heap.size + 1, 0, none⟩) (by simp; omega) _) (a := ⟨w.heap.size + 1, 1, none⟩) (by simp; omega) _)
        · rw [HPK.out, HRz.out]
          exact SlR.of_owns (ownsRow_setCell_below (ownsRow_setCell_below HG.out (a := ⟨w.heap.size + 1, 0, none⟩) (by simp; omega) _) (a := ⟨w.heap.size + 1, 1, none⟩) (by simp; omega) _)
end Go.Proofs.Ytbjgklifmillgaa
