import Derived.Test.YtbjgklifmillgaaGreatMDi
import Derived.Test.YtbjgklifmillgaaGreatSolve
/- The reference's distribution: the equations of all nodes, solved. -/
namespace Go.Proofs.YtbjgklifmillgaaGreat
open Go.RowKit
set_option linter.unusedVariables false

set_option maxRecDepth 100000 in
theorem zero_any (w : World) : Calls Tryz.prog 49 #[] w fun e' w' => ∃ v', e' = .returned v' ∧ Below w.heap.size w w' ∧ RatioR (fun b => w.heap.size ≤ b) w' v' 0 := by
  have HOF := Lib.hid (fun w' => ratioInt_any 0 w' (by omega) (by omega))
  go_enter Tryz.func49, Tryz.ntmps49
  go_wp2_with fail
  generalize hW : World.alloc _ _ = w6
  have hb6 : Below w.heap.size w w6 := by rw [← hW]; (repeat' (first | (with_reducible exact Below.refl _ _) | (with_reducible assumption) | (with_reducible refine Below.drewN ?_ _) | (with_reducible refine Below.alloc ?_ ?_ _) | (with_reducible refine Below.drew ?_) | (with_reducible refine Below.setCell ?_ ?_ _) | (with_reducible refine Below.step (by assumption) ?_ ?_) | (with_reducible exact And.left (by assumption)) | go_size))
  have hz6 : w6.heap.size = w.heap.size + 1 := by rw [← hW]; simp
  have z0 : w6.cell? ⟨w.heap.size, 0, none⟩ = some (.int .i64 0) := by { rw [← hW]; clear hW; go_simp }
  have z1 : w6.cell? ⟨w.heap.size, 1, none⟩ = some (.slice none 0 0) := by { rw [← hW]; clear hW; go_simp }
  have z2 : w6.cell? ⟨w.heap.size, 2, none⟩ = some (.int .i64 0) := by { rw [← hW]; clear hW; go_simp }
  have z3 : w6.cell? ⟨w.heap.size, 3, none⟩ = some (.slice none 0 0) := by { rw [← hW]; clear hW; go_simp }
  have f0 : w6.frozen? ⟨w.heap.size, 0, none⟩ = false := by { rw [← hW]; clear hW; go_simp }
  have f1 : w6.frozen? ⟨w.heap.size, 1, none⟩ = false := by { rw [← hW]; clear hW; go_simp }
  have f2 : w6.frozen? ⟨w.heap.size, 2, none⟩ = false := by { rw [← hW]; clear hW; go_simp }
  have f3 : w6.frozen? ⟨w.heap.size, 3, none⟩ = false := by { rw [← hW]; clear hW; go_simp }
  have l : w.heap.size < w6.heap.size := by rw [← hW]; simp
  have HB6 := Lib.hid hb6
  clear hW hb6
  refine (HOF.out _).mono ?_
  rintro e9 w9 ⟨v9, rfl, hb9, hW9⟩
  have hz9 := hb9.size
  have z0c : w9.cell? ⟨w.heap.size, 0, none⟩ = some (.int .i64 0) := by { rw [cellB hb9 _ _ (by first | (simp; done) | (simp; omega) | omega)]; all_goals (first | assumption | go_simp) }; have z1c : w9.cell? ⟨w.heap.size, 1, none⟩ = some (.slice none 0 0) := by { rw [cellB hb9 _ _ (by first | (simp; done) | (simp; omega) | omega)]; all_goals (first | assumption | go_simp) }; have z2c : w9.cell? ⟨w.heap.size, 2, none⟩ = some (.int .i64 0) := by { rw [cellB hb9 _ _ (by first | (simp; done) | (simp; omega) | omega)]; all_goals (first | assumption | go_simp) }; have z3c : w9.cell? ⟨w.heap.size, 3, none⟩ = some (.slice none 0 0) := by { rw [cellB hb9 _ _ (by first | (simp; done) | (simp; omega) | omega)]; all_goals (first | assumption | go_simp) }; have f0c : w9.frozen? ⟨w.heap.size, 0, none⟩ = false := by { rw [frozenB hb9 _ _ (by first | (simp; done) | (simp; omega) | omega)]; all_goals (first | assumption | go_simp) }; have f1c : w9.frozen? ⟨w.heap.size, 1, none⟩ = false := by { rw [frozenB hb9 _ _ (by first | (simp; done) | (simp; omega) | omega)]; all_goals (first | assumption | go_simp) }; have f2c : w9.frozen? ⟨w.heap.size, 2, none⟩ = false := by { rw [frozenB hb9 _ _ (by first | (simp; done) | (simp; omega) | omega)]; all_goals (first | assumption | go_simp) }; have f3c : w9.frozen? ⟨w.heap.size, 3, none⟩ = false := by { rw [frozenB hb9 _ _ (by first | (simp; done) | (simp; omega) | omega)]; all_goals (first | assumption | go_simp) }; have lc : w.heap.size < w9.heap.size := by { omega }
  have HB9 := Lib.hid hb9
  have HW9 := Lib.hid (hW9.mono (p' := fun b => w.heap.size + 1 ≤ b) (fun b hb => by omega))
  obtain ⟨t1, b1, o1, k1, t2, b2, o2, k2, rfl, _⟩ := hW9
  clear hb9 HOF z0 z1 z2 z3 f0 f1 f2 f3 l
  go_wp2
  refine bodyPost_ret (v := .agg #[.int .i64 t1, .slice b1 o1 k1, .int .i64 t2, .slice b2 o2 k2]) (by simp [results, Tryz.results49, go_sem, *]) rfl ⟨_, rfl, ?_, ?_⟩
  · exact ((((HB6.out.trans (HB9.out.mono (by omega))).setCell (by simp) _).setCell (by simp) _).setCell (by simp) _).setCell (by simp) _
  · refine RatioR.mono (p := fun b => w.heap.size + 1 ≤ b) (RatioR.kept (w := w9) (by simpa using HW9.out) (by simp) (fun b hb => ?_)) (fun b hb => by omega)
    rw [Go.Deep.blk_setCell_other _ _ _ _ (by simp; omega), Go.Deep.blk_setCell_other _ _ _ _ (by simp; omega), Go.Deep.blk_setCell_other _ _ _ _ (by simp; omega), Go.Deep.blk_setCell_other _ _ _ _ (by simp; omega)]
set_option maxRecDepth 100000 in
theorem one_any (w : World) : Calls Tryz.prog 118 #[] w fun e' w' => ∃ v', e' = .returned v' ∧ Below w.heap.size w w' ∧ RatioR (fun b => w.heap.size ≤ b) w' v' 1 := by
  have HOF := Lib.hid (fun w' => ratioInt_any 1 w' (by omega) (by omega))
  go_enter Tryz.func118, Tryz.ntmps118
  go_wp2_with fail
  generalize hW : World.alloc _ _ = w6
  have hb6 : Below w.heap.size w w6 := by rw [← hW]; (repeat' (first | (with_reducible exact Below.refl _ _) | (with_reducible assumption) | (with_reducible refine Below.drewN ?_ _) | (with_reducible refine Below.alloc ?_ ?_ _) | (with_reducible refine Below.drew ?_) | (with_reducible refine Below.setCell ?_ ?_ _) | (with_reducible refine Below.step (by assumption) ?_ ?_) | (with_reducible exact And.left (by assumption)) | go_size))
  have hz6 : w6.heap.size = w.heap.size + 1 := by rw [← hW]; simp
  have z0 : w6.cell? ⟨w.heap.size, 0, none⟩ = some (.int .i64 0) := by { rw [← hW]; clear hW; go_simp }
  have z1 : w6.cell? ⟨w.heap.size, 1, none⟩ = some (.slice none 0 0) := by { rw [← hW]; clear hW; go_simp }
  have z2 : w6.cell? ⟨w.heap.size, 2, none⟩ = some (.int .i64 0) := by { rw [← hW]; clear hW; go_simp }
  have z3 : w6.cell? ⟨w.heap.size, 3, none⟩ = some (.slice none 0 0) := by { rw [← hW]; clear hW; go_simp }
  have f0 : w6.frozen? ⟨w.heap.size, 0, none⟩ = false := by { rw [← hW]; clear hW; go_simp }
  have f1 : w6.frozen? ⟨w.heap.size, 1, none⟩ = false := by { rw [← hW]; clear hW; go_simp }
  have f2 : w6.frozen? ⟨w.heap.size, 2, none⟩ = false := by { rw [← hW]; clear hW; go_simp }
  have f3 : w6.frozen? ⟨w.heap.size, 3, none⟩ = false := by { rw [← hW]; clear hW; go_simp }
  have l : w.heap.size < w6.heap.size := by rw [← hW]; simp
  have HB6 := Lib.hid hb6
  clear hW hb6
  refine (HOF.out _).mono ?_
  rintro e9 w9 ⟨v9, rfl, hb9, hW9⟩
  have hz9 := hb9.size
  have z0c : w9.cell? ⟨w.heap.size, 0, none⟩ = some (.int .i64 0) := by { rw [cellB hb9 _ _ (by first | (simp; done) | (simp; omega) | omega)]; all_goals (first | assumption | go_simp) }; have z1c : w9.cell? ⟨w.heap.size, 1, none⟩ = some (.slice none 0 0) := by { rw [cellB hb9 _ _ (by first | (simp; done) | (simp; omega) | omega)]; all_goals (first | assumption | go_simp) }; have z2c : w9.cell? ⟨w.heap.size, 2, none⟩ = some (.int .i64 0) := by { rw [cellB hb9 _ _ (by first | (simp; done) | (simp; omega) | omega)]; all_goals (first | assumption | go_simp) }; have z3c : w9.cell? ⟨w.heap.size, 3, none⟩ = some (.slice none 0 0) := by { rw [cellB hb9 _ _ (by first | (simp; done) | (simp; omega) | omega)]; all_goals (first | assumption | go_simp) }; have f0c : w9.frozen? ⟨w.heap.size, 0, none⟩ = false := by { rw [frozenB hb9 _ _ (by first | (simp; done) | (simp; omega) | omega)]; all_goals (first | assumption | go_simp) }; have f1c : w9.frozen? ⟨w.heap.size, 1, none⟩ = false := by { rw [frozenB hb9 _ _ (by first | (simp; done) | (simp; omega) | omega)]; all_goals (first | assumption | go_simp) }; have f2c : w9.frozen? ⟨w.heap.size, 2, none⟩ = false := by { rw [frozenB hb9 _ _ (by first | (simp; done) | (simp; omega) | omega)]; all_goals (first | assumption | go_simp) }; have f3c : w9.frozen? ⟨w.heap.size, 3, none⟩ = false := by { rw [frozenB hb9 _ _ (by first | (simp; done) | (simp; omega) | omega)]; all_goals (first | assumption | go_simp) }; have lc : w.heap.size < w9.heap.size := by { omega }
  have HB9 := Lib.hid hb9
  have HW9 := Lib.hid (hW9.mono (p' := fun b => w.heap.size + 1 ≤ b) (fun b hb => by omega))
  obtain ⟨t1, b1, o1, k1, t2, b2, o2, k2, rfl, _⟩ := hW9
  clear hb9 HOF z0 z1 z2 z3 f0 f1 f2 f3 l
  go_wp2
  refine bodyPost_ret (v := .agg #[.int .i64 t1, .slice b1 o1 k1, .int .i64 t2, .slice b2 o2 k2]) (by simp [results, Tryz.results118, go_sem, *]) rfl ⟨_, rfl, ?_, ?_⟩
  · exact ((((HB6.out.trans (HB9.out.mono (by omega))).setCell (by simp) _).setCell (by simp) _).setCell (by simp) _).setCell (by simp) _
  · refine RatioR.mono (p := fun b => w.heap.size + 1 ≤ b) (RatioR.kept (w := w9) (by simpa using HW9.out) (by simp) (fun b hb => ?_)) (fun b hb => by omega)
    rw [Go.Deep.blk_setCell_other _ _ _ _ (by simp; omega), Go.Deep.blk_setCell_other _ _ _ _ (by simp; omega), Go.Deep.blk_setCell_other _ _ _ _ (by simp; omega), Go.Deep.blk_setCell_other _ _ _ _ (by simp; omega)]
theorem drow_mid' {s e : List Int} {n : Nat} {g : Bool} {j k : Nat} (hj : 0 < j) (hc : ¬ (j = n ∧ g = true)) : dmat s e n g j k = if k = j then ((if j < n then s.getD (j - 1) 0 + e.getD (j - 1) 0 + s.getD j 0 else s.getD (j - 1) 0 + e.getD (j - 1) 0 : Int) : Rat) else if k + 1 = j then ((-(s.getD (j - 1) 0) : Int) : Rat) else if k = j + 1 ∧ j < n then ((-(s.getD j 0) : Int) : Rat) else 0 := by
  unfold dmat drow
  rw [if_neg (by omega), if_neg hc]
  by_cases h1 : k = j
  · subst h1; rw [if_neg (by omega), if_pos rfl, if_pos rfl]
  · rw [if_neg h1]
    by_cases h2 : k + 1 = j
    · rw [if_pos h2, if_neg h1, if_pos h2]
    · rw [if_neg h2, if_neg h1, if_neg h2]
      by_cases h3 : k = j + 1 ∧ j < n
      · rw [if_pos h3, if_pos h3]
      · rw [if_neg h3, if_neg h3]; rfl
theorem dmat_A (s e : List Int) {n k : Nat} (g : Bool) (hk : k + 1 < n) {S0 E0 S1 : Int} (h0 : S0 = s.getD k 0) (h1 : E0 = e.getD k 0) (h2 : S1 = s.getD (k + 1) 0) (i : Nat) (hi : i < n + 1) :
    (if i = k + 1 then ((S0 + E0 + S1 : Int) : Rat) else if i = k + 1 + 1 then ((-S1 : Int) : Rat) else if i = k then ((-S0 : Int) : Rat) else 0) = dmat s e n g (k + 1) i := by
  rw [drow_mid' (by omega) (by omega), Nat.add_sub_cancel, ← h0, ← h1, ← h2]
  by_cases a1 : i = k + 1
  · rw [if_pos a1, if_pos a1, if_pos hk]
  · rw [if_neg a1, if_neg a1]
    by_cases a2 : i = k + 1 + 1
    · rw [if_pos a2, if_neg (by omega), if_pos ⟨a2, hk⟩]
    · rw [if_neg a2]
      by_cases a3 : i = k
      · rw [if_pos a3, if_pos (by omega)]
      · rw [if_neg a3, if_neg (by omega), if_neg (by omega)]
theorem dmat_B (s e : List Int) {n k : Nat} (g : Bool) (hk : ¬ k + 1 < n) (hg : ¬ (k + 1 = n ∧ g = true)) {S0 E0 : Int} (h0 : S0 = s.getD k 0) (h1 : E0 = e.getD k 0) (i : Nat) (hi : i < n + 1) :
    (if i = k + 1 then ((S0 + E0 : Int) : Rat) else if i = k then ((-S0 : Int) : Rat) else 0) = dmat s e n g (k + 1) i := by
  rw [drow_mid' (by omega) hg, Nat.add_sub_cancel, ← h0, ← h1]
  by_cases a1 : i = k + 1
  · rw [if_pos a1, if_pos a1, if_neg hk]
  · rw [if_neg a1, if_neg a1]
    by_cases a3 : i = k
    · rw [if_pos a3, if_pos (by omega)]
    · rw [if_neg a3, if_neg (by omega), if_neg (by omega)]
theorem drow_bd {s e : List Int} {g : Bool} {n L : Nat} (h : Lad s e g n L) (j k : Nat) : Sz 1 (dmat s e n g j k) := by
  have hs : ∀ i, -100 ≤ s.getD i 0 ∧ s.getD i 0 ≤ 100 := fun i => by
    by_cases hi : i < s.length
    · have := h.bs _ (getD_mem hi); omega
    · rw [List.getD_eq_getElem?_getD, List.getElem?_eq_none (by omega)]; simp
  have he : ∀ i, -100 ≤ e.getD i 0 ∧ e.getD i 0 ≤ 100 := fun i => by
    by_cases hi : i < e.length
    · have := h.be _ (getD_mem hi); omega
    · rw [List.getD_eq_getElem?_getD, List.getElem?_eq_none (by omega)]; simp
  have h1 := hs (j - 1)
  have h2 := hs j
  have h3 := he (j - 1)
  unfold dmat
  refine sz_int ?_ ?_ <;> (unfold drow; split <;> (try split) <;> (try split) <;> (try split) <;> (try split) <;> omega)
theorem kz_seven : kz 1 7 ≤ 190000 := by decide
theorem kz_le7 {n : Nat} (h : n ≤ 7) : kz 1 n ≤ 190000 := Nat.le_trans (kz_mono 1 h) kz_seven

set_option maxHeartbeats 1000000 in
set_option maxRecDepth 100000 in
theorem dist_any (s e : List Int) (a a1 : Option Addr) (n c c1 L : Nat) (g : Bool) (w : World) (hs : IntsR w a n s) (he : IntsR w a1 n e) (h : Lad s e g n L) :
    Calls Tryz.prog 85 #[.slice a n c, .slice a1 n c1, .bool g] w fun e' w' => ∃ a' c', e' = .returned (.slice a' (n + 1) c') ∧ Below w.heap.size w w' ∧ ∃ ys, SlN w.heap.size w' a' (n + 1) 4 ys ∧ ∀ k, k < n + 1 → EntL (fun b => b < w'.heap.size) w' ys k (((nu s e L k : Int) : Rat) / ((dd s e L L : Int) : Rat)) := by
  have HL := Lib.hid h
  have hn0 := h.n0
  have hn6 := h.n6
  obtain ⟨bs, os, rfl, hbs, hcs⟩ := hs.addr hn0
  obtain ⟨be, oe, rfl, hbe, hce⟩ := he.addr hn0
  have HCS := Lib.hid hcs
  have HCE := Lib.hid hce
  have hmk : ∀ w' : World, (Instr.makeSlice 94 (.int .i64 ((n : Int) + 1)) (.int .i64 ((n : Int) + 1))).run Tryz.prog w' = .ok (.slice (some ⟨w'.heap.size, 0, none⟩) (n + 1) (n + 1)) (w'.alloc (.cells (madeCells #[Value.int .i64 0, .slice none 0 0, .int .i64 0, .slice none 0 0] ((n + 1) * 4)) 101)) := by
    intro w'
    exact makeRatios Tryz.prog w' 94 101 Tryz.underlying94 infoRatio (n + 1) (by omega)
  have hds := made_one (.int .i64 0) (.slice none 0 0) (.int .i64 0) (.slice none 0 0) rfl rfl rfl rfl ((n + 1) * 4)
  have hdz : (madeCells #[Value.int .i64 0, .slice none 0 0, .int .i64 0, .slice none 0 0] ((n + 1) * 4)).size = (n + 1) * 4 := size_madeCells _ _
  generalize madeCells #[Value.int .i64 0, .slice none 0 0, .int .i64 0, .slice none 0 0] ((n + 1) * 4) = ds at hmk hds hdz
  have HDS := Lib.hid (And.intro hds hdz)
  clear hs he h hcs hce hds hdz
  go_enter Tryz.func85, Tryz.ntmps85
  go_wp2
  go_loopw [8, 9] (fun m i wr => ∃ (j : Nat) (av : Option Addr) (cv : Nat), i = .int .i64 j ∧ m = .slice av j cv ∧ j ≤ n + 1 ∧ Hid (∃ ms, DRows w.heap.size wr (.slice av j cv) j (n + 1) (dmat s e n g) ms) ∧ Hid (Below w.heap.size w wr)) (fun _ i _ => n + 1 - (intOf i).toNat)
  case atStart => exact ⟨0, none, 0, rfl, rfl, Nat.zero_le _, Lib.hid ⟨_, DRows.zero _ _ _ _⟩, Lib.hid (Below.refl _ _)⟩
  case round =>
    obtain ⟨j, av, cv, rfl, rfl, hj, hD, hB⟩ := hrel
    obtain ⟨w1, rfl⟩ : ∃ w', w' = wr := ⟨wr, rfl⟩
    have hz1 := hB.out.size
    rcases Nat.lt_or_ge j (n + 1) with hlt | hge
    · obtain ⟨ms, hd⟩ := hD.out
      have HD := Lib.hid hd
      have HB1 := Lib.hid hB.out
      have j0 : (0 : Int) ≤ (j : Int) := by omega
      have j1 : (j : Int) ≤ (n : Int) := by omega
      clear hD hd hB
      go_wp2
      obtain ⟨R, hR⟩ : ∃ R, R = w1.heap.size := ⟨_, rfl⟩
      generalize hW : World.alloc _ _ = w2 at *
      have HB2 := Lib.hid (show Below R w1 w2 by rw [← hW, hR]; (repeat' (first | (with_reducible exact Below.refl _ _) | (with_reducible assumption) | (with_reducible refine Below.drewN ?_ _) | (with_reducible refine Below.alloc ?_ ?_ _) | (with_reducible refine Below.drew ?_) | (with_reducible refine Below.setCell ?_ ?_ _) | (with_reducible refine Below.step (by assumption) ?_ ?_) | (with_reducible exact And.left (by assumption)) | go_size)))
      have HQ2 := Lib.hid (show ∃ ys, RowQ R w2 R (n + 1) 0 (fun _ => 0) ys from ⟨ds.toList, RowQ.zero (by rw [← hW]; exact owns_lit hR (Nat.le_refl _) (by omega) HDS.out.2) HDS.out.1 _⟩)
      have hR2 : R < w2.heap.size := by rw [← hW, hR]; simp
      simp only [← hR]
      have HR1 := Lib.hid hR
      clear hW hR
      go_loopw [11] (fun i wr => ∃ k : Nat, i = .int .i64 k ∧ k ≤ n + 1 ∧ R < wr.heap.size ∧ Hid (∃ ys, RowQ R wr R (n + 1) k (fun _ => 0) ys) ∧ Hid (Below R w1 wr)) (fun i _ => n + 1 - (intOf i).toNat)
      case atStart => exact ⟨0, rfl, Nat.zero_le _, hR2, HQ2, HB2⟩
      case round =>
        clear HQ2 HB2 hR2
        obtain ⟨k, rfl, hk, hR3, hQ, hB⟩ := hrel
        obtain ⟨w3, rfl⟩ : ∃ w', w' = wr := ⟨wr, rfl⟩
        rcases Nat.lt_or_ge k (n + 1) with hkl | hkg
        · obtain ⟨ys, hq⟩ := hQ.out
          have HQ3 := Lib.hid hq
          have HB3 := Lib.hid hB.out
          have k0 : (0 : Int) ≤ (k : Int) := by omega
          have k1 : (k : Int) ≤ (n : Int) := by omega
          have k2 : (k : Int) < (n : Int) + 1 := by omega
          clear hQ hq hB
          go_wp2_with fail
          refine (zero_any w3).mono ?_
          rintro e5 w5 ⟨v5, rfl, hb5, hr5⟩
          have hz5 := hb5.size
          have HQ5 := Lib.hid (HQ3.out.below hb5)
          have HB5 := Lib.hid (HB3.out.trans (hb5.mono (by omega)))
          have HR5 := Lib.hid (hr5.here.mono (p' := fun b => R < b ∧ b < w5.heap.size) (fun b hb => by obtain ⟨h1, h2⟩ := hb; exact ⟨by omega, h2⟩))
          obtain ⟨s5, a5, n5, c5, t5, b5, m5, d5, rfl, _, _⟩ := hr5
          obtain ⟨u0, u1, u2, u3, g0, g1, g2, g3, f0, f1, f2, f3⟩ := HQ5.out.cells hkl
          have hR5 : R < w5.heap.size := by omega
          have HN := Lib.hid (HQ5.out.set hkl HR5.out (fun _ => 0) (k + 1) rfl (fun i hi hne => ⟨by omega, rfl⟩))
          clear hb5
          go_wp2_with fail
          generalize hW : World.setCell _ _ _ = w6 at *
          have HB6 := Lib.hid (show Below R w1 w6 by
            rw [← hW]
            exact (((HB5.out.setCell (Nat.le_refl _) _).setCell (Nat.le_refl _) _).setCell (Nat.le_refl _) _).setCell (Nat.le_refl _) _)
          have hR6 : R < w6.heap.size := by rw [← hW]; simpa using hR5
          clear hW g0 g1 g2 g3 f0 f1 f2 f3 HQ5 HR5 HB5 HQ3 HB3
          go_wp2
          go_roundw
          case rel => exact ⟨k + 1, by go_num, by omega, hR6, Lib.hid ⟨_, HN.out⟩, HB6⟩
          case measure => simp [intOf]; omega
        · obtain rfl : k = n + 1 := by omega
          have HQ3 := Lib.hid hQ.out
          have HB3 := Lib.hid hB.out
          clear hQ hB
          go_wp2_with fail
          refine (zero_any w3).mono ?_
          rintro e5 w5 ⟨v5, rfl, hb5, hr5⟩
          have hz5 := hb5.size
          have HQ5 := Lib.hid (show ∃ ys, RowQ R w5 R (n + 1) (n + 1) (fun _ => 0) ys from ⟨_, HQ3.out.choose_spec.below hb5⟩)
          have HB5 := Lib.hid (HB3.out.trans (hb5.mono (by omega)))
          have HR5 := Lib.hid (hr5.here.mono (p' := fun b => R < b ∧ b < w5.heap.size) (fun b hb => by obtain ⟨h1, h2⟩ := hb; exact ⟨by omega, h2⟩))
          obtain ⟨s5, a5, n5, c5, t5, b5, m5, d5, rfl, _, _⟩ := hr5
          have hR5 : R < w5.heap.size := by omega
          clear hb5 HQ3 HB3
          go_upto_if 37 with fail
          obtain ⟨X, hX⟩ : ∃ X, X = w5.heap.size := ⟨_, rfl⟩
          have HR6 := Lib.hid (show BR R (w5.alloc (Obj.cells #[.int .i64 s5, .slice a5 n5 c5, .int .i64 t5, .slice b5 m5 d5] 101)) X (n + 1) (fun _ => 0) 0 from ⟨_, BRow.start HQ5.out.choose_spec hX HR5.out⟩)
          simp only [← hX]
          generalize hW : w5.alloc _ = w6 at *
          have HB6 := Lib.hid (show Below R w1 w6 by rw [← hW]; exact HB5.out.alloc (by omega) _)
          clear hW hX HQ5 HR5 HB5 hR5 hz5
          go_cut [13, 37] from 38 to 97 (fun v13 v37 wx => Hid (BR R wx X (n + 1) (dmat s e n g j) (dmat s e n g j (n + 1))) ∧ Hid (Below R w1 wx))
          case first =>
            have hRX : R < X := HR6.out.hX.1
            have hXs : X < w6.heap.size := HR6.out.hX.2
            have hne1 : ¬ R = X := by omega
            have hne2 : ¬ X = R := by omega
            have HRW := Lib.hid (show R ≤ w1.heap.size by have := HR1.out; omega)
            by_cases hj0 : j = 0
            · have e0 : ((j : Int) == 0) = true := by simp; omega
              have HJ := Lib.hid hj0
              clear hj0
              go_wp2_with fail
              refine (one_any w6).mono ?_
              rintro e7 w7 ⟨v7, rfl, hb7, hr7⟩
              have hz7 := hb7.size
              have HR7 := Lib.hid (HR6.out.below hb7)
              have HB7 := Lib.hid (HB6.out.trans (hb7.mono (Nat.le_trans HRW.out HB6.out.size)))
              have HV7 := Lib.hid (hr7.here.mono (p' := PX R X w7) (fun b hb => ⟨by omega, hb.2, by omega⟩))
              obtain ⟨s7, a7, n7, c7, t7, b7, m7, d7, rfl, _, _⟩ := hr7
              clear hb7 HR6 HB6
              go_wp2_with fail
              refine (one_any w7).mono ?_
              rintro e8 w8 ⟨v8, rfl, hb8, hr8⟩
              have hz8 := hb8.size
              have HR8 := Lib.hid (HR7.out.below hb8)
              have HB8 := Lib.hid (HB7.out.trans (hb8.mono (Nat.le_trans HRW.out HB7.out.size)))
              have HV8 := Lib.hid (hr8.here.mono (p' := PX R X w8) (fun b hb => ⟨by omega, hb.2, by omega⟩))
              obtain ⟨s8, a8, n8, c8, t8, b8, m8, d8, rfl, _, _⟩ := hr8
              have HV7 := Lib.hid ((HV7.out.below hb8).mono (fun b hb => hb.up hz8))
              clear hb8 HR7 HB7
              obtain ⟨u0, u1, u2, u3, g0, g1, g2, g3, f0, f1, f2, f3⟩ := HR8.out.cells (show 0 < n + 1 by omega)
              obtain ⟨y0, y1, y2, y3, y4, y5, y6, y7, x0, x1, x2, x3, _⟩ := HR8.out.xcells
              have p0 := HR8.out.frX 0
              have p1 := HR8.out.frX 1
              have p2 := HR8.out.frX 2
              have p3 := HR8.out.frX 3
              simp only [Nat.zero_mul, Nat.zero_add] at g0 g1 g2 g3 f0 f1 f2 f3
              have HN := Lib.hid ((((HR8.out.set (show 0 < n + 1 by omega) HV7.out).setX (PX.rowset 0 _ _ _ _ HV8.out)).congr (q' := dmat s e n g j) (b' := dmat s e n g j (n + 1)) (fun k hk => by rw [HJ.out, dmat_0 _ _ _ _ _ hk]) (by rw [HJ.out, dmat_rhs _ _ _ _ _ (by omega), if_pos rfl])))
              have HNB := Lib.hid (below_X (below_row HB8.out (Nat.le_refl _) 0 (.int .i64 s7) (.slice a7 n7 c7) (.int .i64 t7) (.slice b7 m7 d7)) (Nat.le_of_lt hRX) (.int .i64 s8) (.slice a8 n8 c8) (.int .i64 t8) (.slice b8 m8 d8))
              clear HV7 HV8 HR8 HB8
              go_wp2_with fail
              go_meet
              case rel => exact ⟨HN, HNB⟩
            · have e0 : ((j : Int) == 0) = false := by simp; omega
              by_cases hje : j = n ∧ g = true
              · obtain ⟨hjn, rfl⟩ := hje
                have e1 : ((j : Int) == (n : Int)) = true := by simp; omega
                have HJ := Lib.hid hjn
                have HJ0 := Lib.hid hj0
                clear hjn hj0
                have n0 : (0 : Int) ≤ (n : Int) := by omega
                have n1 : (n : Int) < (n : Int) + 1 := by omega
                go_wp2_with fail
                refine (one_any w6).mono ?_
                rintro e7 w7 ⟨v7, rfl, hb7, hr7⟩
                have hz7 := hb7.size
                have HR7 := Lib.hid (HR6.out.below hb7)
                have HB7 := Lib.hid (HB6.out.trans (hb7.mono (Nat.le_trans HRW.out HB6.out.size)))
                have HV7 := Lib.hid (hr7.here.mono (p' := PX R X w7) (fun b hb => ⟨by omega, hb.2, by omega⟩))
                obtain ⟨s7, a7, n7, c7, t7, b7, m7, d7, rfl, _, _⟩ := hr7
                clear hb7 HR6 HB6
                obtain ⟨u0, u1, u2, u3, g0, g1, g2, g3, f0, f1, f2, f3⟩ := HR7.out.cells (show n < n + 1 by omega)
                have HN := Lib.hid ((HR7.out.set (show n < n + 1 by omega) HV7.out).congr (q' := dmat s e n true j) (b' := dmat s e n true j (n + 1)) (fun k hk => by rw [HJ.out, dmat_e _ _ _ (by omega)]) (by rw [dmat_rhs _ _ _ _ _ (by omega), if_neg HJ0.out]))
                have HNB := Lib.hid (below_row HB7.out (Nat.le_refl _) n (.int .i64 s7) (.slice a7 n7 c7) (.int .i64 t7) (.slice b7 m7 d7))
                clear HV7 HR7 HB7
                go_wp2_with fail
                go_meet
                case rel => exact ⟨HN, HNB⟩
              · obtain ⟨k, rfl⟩ : ∃ k, j = k + 1 := ⟨j - 1, by omega⟩
                have hcast : ((k + 1 : Nat) : Int) = (k : Int) + 1 := by omega
                have HJE := Lib.hid hje
                obtain ⟨S0, hS0⟩ : ∃ x, x = s.getD k 0 := ⟨_, rfl⟩
                obtain ⟨E0, hE0⟩ : ∃ x, x = e.getD k 0 := ⟨_, rfl⟩
                have bS : 1 ≤ S0 ∧ S0 ≤ 100 := by rw [hS0]; exact HL.out.bs _ (getD_mem (by rw [HL.out.ls]; omega))
                have bE : 0 ≤ E0 ∧ E0 ≤ 100 := by rw [hE0]; exact HL.out.be _ (getD_mem (by rw [HL.out.le]; omega))
                have cs : w6.cell? ⟨bs, os + k, none⟩ = some (.int .i64 S0) := by rw [cellB HB6.out _ _ (by have := HR1.out; omega), cellB HB1.out _ _ hbs, hS0]; exact HCS.out k (by omega)
                have ce : w6.cell? ⟨be, oe + k, none⟩ = some (.int .i64 E0) := by rw [cellB HB6.out _ _ (by have := HR1.out; omega), cellB HB1.out _ _ hbe, hE0]; exact HCE.out k (by omega)
                have HSE := Lib.hid (And.intro hS0 hE0)
                have k0 : (0 : Int) ≤ (k : Int) := by omega
                have k1 : (k : Int) < (n : Int) := by omega
                have k2 : (k : Int) < (n : Int) + 1 := by omega
                have k3 : (k : Int) + 1 < (n : Int) + 1 := by omega
                simp only [hcast] at e0 j0 j1 ⊢
                have HJ0 := Lib.hid hj0
                clear hcast hS0 hE0 hje hj0
                rcases Nat.lt_or_ge (k + 1) n with hkn | hkn
                · have e1 : ((k : Int) + 1 == (n : Int)) = false := by simp; omega
                  have k4 : (k : Int) + 1 < (n : Int) := by omega
                  have k5 : (k : Int) + 1 + 1 < (n : Int) + 1 := by omega
                  obtain ⟨S1, hS1⟩ : ∃ x, x = s.getD (k + 1) 0 := ⟨_, rfl⟩
                  have bS1 : 1 ≤ S1 ∧ S1 ≤ 100 := by rw [hS1]; exact HL.out.bs _ (getD_mem (by rw [HL.out.ls]; omega))
                  have HS1 := Lib.hid hS1
                  clear hS1
                  have hnb1 : ¬ bs = R := by have := HR1.out; omega
                  have hnb2 : ¬ R = bs := by have := HR1.out; omega
                  go_wp2_with fail
                  refine later_all (by kernel_rfl) (by kernel_rfl) ?_; repeat go_big_quiet_step(fail)
                  refine wpQuiet_nil ?_; intro w7 hb7
                  have hz7 := hb7.size
                  have HR7 := Lib.hid (HR6.out.below hb7)
                  have HB7 := Lib.hid (HB6.out.trans (hb7.mono (Nat.le_trans HRW.out HB6.out.size)))
                  have cs7 : w7.cell? ⟨bs, os + k, none⟩ = some (.int .i64 S0) := by rw [cellB hb7 _ _ (by have := HR1.out; omega)]; exact cs
                  clear hb7 cs ce HR6 HB6
                  go_wp2_with fail
                  refine (ratioInt_any (-S0) w7 (by omega) (by omega)).mono ?_
                  rintro e8 w8 ⟨v8, rfl, hb8, hr8⟩
                  have hz8 := hb8.size
                  have HR8 := Lib.hid (HR7.out.below hb8)
                  have HB8 := Lib.hid (HB7.out.trans (hb8.mono (Nat.le_trans HRW.out HB7.out.size)))
                  have HV8 := Lib.hid (hr8.here.mono (p' := PX R X w8) (fun b hb => ⟨by omega, hb.2, by omega⟩))
                  obtain ⟨s8, a8, n8, c8, t8, b8, m8, d8, rfl, _, _⟩ := hr8
                  clear hb8 cs7 HR7 HB7
                  have cs1 : w8.cell? ⟨bs, os + (k + 1), none⟩ = some (.int .i64 S1) := by rw [cellB HB8.out _ _ (by have := HR1.out; omega), cellB HB1.out _ _ hbs, HS1.out]; exact HCS.out (k + 1) (by omega)
                  obtain ⟨u0, u1, u2, u3, g0, g1, g2, g3, f0, f1, f2, f3⟩ := HR8.out.cells (show k < n + 1 by omega)
                  have HS := Lib.hid (HR8.out.set (show k < n + 1 by omega) HV8.out)
                  have HSB := Lib.hid (below_row HB8.out (Nat.le_refl _) (k) (.int .i64 s8) (.slice a8 n8 c8) (.int .i64 t8) (.slice b8 m8 d8))
                  clear HR8 HB8 HV8
                  go_wp2_with fail
                  generalize hW : World.setCell _ _ _ = w9 at *
                  have HR9 := Lib.hid HS.out
                  have HB9 := Lib.hid HSB.out
                  have hXs : X < w9.heap.size := HR9.out.hX.2
                  clear hW HS HSB g0 g1 g2 g3 f0 f1 f2 f3
                  clear cs1
                  refine (ratioInt_any (-S1) w9 (by omega) (by omega)).mono ?_
                  rintro e10 w10 ⟨v10, rfl, hb10, hr10⟩
                  have hz10 := hb10.size
                  have HR10 := Lib.hid (HR9.out.below hb10)
                  have HB10 := Lib.hid (HB9.out.trans (hb10.mono (Nat.le_trans HRW.out HB9.out.size)))
                  have HV10 := Lib.hid (hr10.here.mono (p' := PX R X w10) (fun b hb => ⟨by omega, hb.2, by omega⟩))
                  obtain ⟨s10, a10, n10, c10, t10, b10, m10, d10, rfl, _, _⟩ := hr10
                  clear hb10 HR9 HB9
                  obtain ⟨u0, u1, u2, u3, g0, g1, g2, g3, f0, f1, f2, f3⟩ := HR10.out.cells (show k + 1 + 1 < n + 1 by omega)
                  have HS := Lib.hid (HR10.out.set (show k + 1 + 1 < n + 1 by omega) HV10.out)
                  have HSB := Lib.hid (below_row HB10.out (Nat.le_refl _) (k + 1 + 1) (.int .i64 s10) (.slice a10 n10 c10) (.int .i64 t10) (.slice b10 m10 d10))
                  clear HR10 HB10 HV10
                  go_wp2_with fail
                  generalize hW : World.setCell _ _ _ = w11 at *
                  have HR11 := Lib.hid HS.out
                  have HB11 := Lib.hid HSB.out
                  have hXs : X < w11.heap.size := HR11.out.hX.2
                  clear hW HS HSB g0 g1 g2 g3 f0 f1 f2 f3
                  refine (ratioInt_any (S0 + E0 + S1) w11 (by omega) (by omega)).mono ?_
                  rintro e12 w12 ⟨v12, rfl, hb12, hr12⟩
                  have hz12 := hb12.size
                  have HR12 := Lib.hid (HR11.out.below hb12)
                  have HB12 := Lib.hid (HB11.out.trans (hb12.mono (Nat.le_trans HRW.out HB11.out.size)))
                  have HV12 := Lib.hid (hr12.here.mono (p' := PX R X w12) (fun b hb => ⟨by omega, hb.2, by omega⟩))
                  obtain ⟨s12, a12, n12, c12, t12, b12, m12, d12, rfl, _, _⟩ := hr12
                  clear hb12 HR11 HB11
                  obtain ⟨u0, u1, u2, u3, g0, g1, g2, g3, f0, f1, f2, f3⟩ := HR12.out.cells (show k + 1 < n + 1 by omega)
                  have HS := Lib.hid (HR12.out.set (show k + 1 < n + 1 by omega) HV12.out)
                  have HSB := Lib.hid (below_row HB12.out (Nat.le_refl _) (k + 1) (.int .i64 s12) (.slice a12 n12 c12) (.int .i64 t12) (.slice b12 m12 d12))
                  clear HR12 HB12 HV12
                  go_wp2_with fail
                  go_meet
                  case rel => exact ⟨Lib.hid (HS.out.congr (fun i hi => dmat_A s e g hkn HSE.out.1 HSE.out.2 HS1.out i hi) (by rw [dmat_rhs _ _ _ _ _ (by omega), if_neg (by omega)])), HSB⟩
                · obtain rfl : g = false := by
                    have := HJE.out
                    cases g
                    · rfl
                    · exact absurd ⟨by omega, rfl⟩ this
                  have e1 : ((k : Int) + 1 == (n : Int)) = true := by simp; omega
                  have k4 : ¬ ((k : Int) + 1 < (n : Int)) := by omega
                  have hnb1 : ¬ bs = R := by have := HR1.out; omega
                  have hnb2 : ¬ R = bs := by have := HR1.out; omega
                  go_wp2_with fail
                  refine later_all (by kernel_rfl) (by kernel_rfl) ?_; repeat go_big_quiet_step(fail)
                  refine wpQuiet_nil ?_; intro w7 hb7
                  have hz7 := hb7.size
                  have HR7 := Lib.hid (HR6.out.below hb7)
                  have HB7 := Lib.hid (HB6.out.trans (hb7.mono (Nat.le_trans HRW.out HB6.out.size)))
                  have cs7 : w7.cell? ⟨bs, os + k, none⟩ = some (.int .i64 S0) := by rw [cellB hb7 _ _ (by have := HR1.out; omega)]; exact cs
                  clear hb7 cs ce HR6 HB6
                  go_wp2_with fail
                  refine (ratioInt_any (-S0) w7 (by omega) (by omega)).mono ?_
                  rintro e8 w8 ⟨v8, rfl, hb8, hr8⟩
                  have hz8 := hb8.size
                  have HR8 := Lib.hid (HR7.out.below hb8)
                  have HB8 := Lib.hid (HB7.out.trans (hb8.mono (Nat.le_trans HRW.out HB7.out.size)))
                  have HV8 := Lib.hid (hr8.here.mono (p' := PX R X w8) (fun b hb => ⟨by omega, hb.2, by omega⟩))
                  obtain ⟨s8, a8, n8, c8, t8, b8, m8, d8, rfl, _, _⟩ := hr8
                  clear hb8 cs7 HR7 HB7
                  obtain ⟨u0, u1, u2, u3, g0, g1, g2, g3, f0, f1, f2, f3⟩ := HR8.out.cells (show k < n + 1 by omega)
                  have HS := Lib.hid (HR8.out.set (show k < n + 1 by omega) HV8.out)
                  have HSB := Lib.hid (below_row HB8.out (Nat.le_refl _) (k) (.int .i64 s8) (.slice a8 n8 c8) (.int .i64 t8) (.slice b8 m8 d8))
                  clear HR8 HB8 HV8
                  go_wp2_with fail
                  generalize hW : World.setCell _ _ _ = w9 at *
                  have HR9 := Lib.hid HS.out
                  have HB9 := Lib.hid HSB.out
                  have hXs : X < w9.heap.size := HR9.out.hX.2
                  clear hW HS HSB g0 g1 g2 g3 f0 f1 f2 f3
                  refine (ratioInt_any (S0 + E0) w9 (by omega) (by omega)).mono ?_
                  rintro e10 w10 ⟨v10, rfl, hb10, hr10⟩
                  have hz10 := hb10.size
                  have HR10 := Lib.hid (HR9.out.below hb10)
                  have HB10 := Lib.hid (HB9.out.trans (hb10.mono (Nat.le_trans HRW.out HB9.out.size)))
                  have HV10 := Lib.hid (hr10.here.mono (p' := PX R X w10) (fun b hb => ⟨by omega, hb.2, by omega⟩))
                  obtain ⟨s10, a10, n10, c10, t10, b10, m10, d10, rfl, _, _⟩ := hr10
                  clear hb10 HR9 HB9
                  obtain ⟨u0, u1, u2, u3, g0, g1, g2, g3, f0, f1, f2, f3⟩ := HR10.out.cells (show k + 1 < n + 1 by omega)
                  have HS := Lib.hid (HR10.out.set (show k + 1 < n + 1 by omega) HV10.out)
                  have HSB := Lib.hid (below_row HB10.out (Nat.le_refl _) (k + 1) (.int .i64 s10) (.slice a10 n10 c10) (.int .i64 t10) (.slice b10 m10 d10))
                  clear HR10 HB10 HV10
                  go_wp2_with fail
                  go_meet
                  case rel => exact ⟨Lib.hid (HS.out.congr (fun i hi => dmat_B s e false (by omega) (by simp) HSE.out.1 HSE.out.2 i hi) (by rw [dmat_rhs _ _ _ _ _ (by omega), if_neg (by omega)])), HSB⟩
          case rest =>
            obtain ⟨w9, rfl⟩ : ∃ w', w' = wc := ⟨wc, rfl⟩
            obtain ⟨hRow, hB⟩ := hcut
            obtain ⟨ys, hrow⟩ := hRow.out
            have HROW := Lib.hid hrow
            have HB9 := Lib.hid hB.out
            have hz9 := hB.out.size
            have hlR := hrow.lt
            have hXs := hrow.hX
            obtain ⟨s5, a5, n5, c5, t5, b5, m5, d5, x0, x1, x2, x3, hq⟩ := hrow.xcells
            have HQ := Lib.hid hq
            have HRQ := Lib.hid hrow.row
            clear hRow hB hrow hq HR6 HB6
            go_wp2_with (at_builtin; refine append_g _ rfl _ _ 94 101 _ 4 64 Tryz.underlying94 infoRatio rfl (by omega) rfl R (n + 1) w9.heap.size (.slice (some ⟨R, 0, none⟩) (n + 1) (n + 1)) ys [.int .i64 s5, .slice a5 n5 c5, .int .i64 t5, .slice b5 m5 d5] rfl (HROW.out.own.alloc _) rfl rfl (fun i u hu => ?_) (fun u hu => ?_) (by omega) (by omega) (by simp; omega) ?_)
            · rcases i with _ | _ | _ | _ | i
              · simp at hu; subst hu; go_simp
              · simp at hu; subst hu; go_simp
              · simp at hu; subst hu; go_simp
              · simp at hu; subst hu; go_simp
              · simp at hu
            · simp at hu; rcases hu with rfl | rfl | rfl | rfl <;> rfl
            intro v7 w7 hown7 hg7 hv7 hb7
            have hbl : Below w9.heap.size w9 (w9.alloc (Obj.cells #[.int .i64 s5, .slice a5 n5 c5, .int .i64 t5, .slice b5 m5 d5] 101)) := by (repeat' (first | (with_reducible exact Below.refl _ _) | (with_reducible assumption) | (with_reducible refine Below.drewN ?_ _) | (with_reducible refine Below.alloc ?_ ?_ _) | (with_reducible refine Below.drew ?_) | (with_reducible refine Below.setCell ?_ ?_ _) | (with_reducible refine Below.step (by assumption) ?_ ?_) | (with_reducible exact And.left (by assumption)) | go_size))
            obtain ⟨g', rc, rfl, hlo, hlt7, hcell, hone, hlen, hent⟩ := RowQ.snoc (HRQ.out.below hbl) ((HQ.out.below hbl).mono (fun b hb => ⟨hb.1, by have := hb.2.1; simp; omega⟩)) hown7 hg7
            have HB7 := Lib.hid (show Below R w1 w7 from Below.trans (HB9.out.alloc (by omega) _) hb7)
            have hRw : R = w1.heap.size := HR1.out
            have HB71 := Lib.hid (show Below w1.heap.size w1 w7 by rw [← hRw]; exact HB7.out)
            have hz7 := HB7.out.size
            have hz97 : w9.heap.size + 1 ≤ w7.heap.size := by have := hg7.size; simpa using this
            have HC := Lib.hid hcell
            have HO := Lib.hid hone
            have HLN := Lib.hid hlen
            have HEN := Lib.hid hent
            have HOV := Lib.hid (owns_below HD.out.own HB71.out (fun q hq => (HD.out.own.lt q hq).2))
            have hg1 : w1.heap.size ≤ g' := by omega
            clear hown7 hg7 hv7 hb7 hbl hcell hone hlen hent hRw x0 x1 x2 x3 HRQ HQ HROW HB9
            generalize hyy : (ys ++ [Value.int .i64 s5, .slice a5 n5 c5, .int .i64 t5, .slice b5 m5 d5]) = yy at *
            clear hyy
            go_wp2_with (at_builtin; refine append_g _ rfl _ _ 177 94 _ 1 24 Tryz.underlying177 infoRow rfl (by omega) rfl w.heap.size j w7.heap.size (.slice av j cv) ms [.slice (some ⟨g', 0, none⟩) (n + 1 + 1) rc] rfl (HOV.out.alloc _) rfl rfl (fun i u hu => ?_) (fun u hu => ?_) (by omega) (by omega) (by simp; omega) ?_)
            · rcases i with _ | i
              · simp at hu; subst hu; go_simp
              · simp at hu
            · simp at hu; subst hu; rfl
            intro v8 w8 hown8 hg8 hv8 hb8
            obtain ⟨av2, cv2, rfl, _, _⟩ := owns_slice hown8
            have hbl : Below w7.heap.size w7 (w7.alloc (Obj.cells #[.slice (some ⟨g', 0, none⟩) (n + 1 + 1) rc] 94)) := by (repeat' (first | (with_reducible exact Below.refl _ _) | (with_reducible assumption) | (with_reducible refine Below.drewN ?_ _) | (with_reducible refine Below.alloc ?_ ?_ _) | (with_reducible refine Below.drew ?_) | (with_reducible refine Below.setCell ?_ ?_ _) | (with_reducible refine Below.step (by assumption) ?_ ?_) | (with_reducible exact And.left (by assumption)) | go_size))
            have hsl : (w7.alloc (Obj.cells #[.slice (some ⟨g', 0, none⟩) (n + 1 + 1) rc] 94)).heap.size = w7.heap.size + 1 := by simp
            have HDN := Lib.hid (HD.out.next (HB71.out.trans (hbl.mono hz7)) HLN.out hg1 (by omega) (fun x u hu => by rw [cellB hbl _ _ hlt7]; exact HC.out x u hu) HO.out (fun i hi => by
              have hie : (if i = n + 1 then dmat s e n g j (n + 1) else dmat s e n g j i) = dmat s e n g j i := by
                split
                · rename_i h; rw [h]
                · rfl
              have h := HEN.out i hi
              rw [hie] at h
              exact (h.below hbl).mono (fun b hb => by have h1 := hb.1; have h2 := hb.2; have h3 := HR1.out; simp only [World.size_alloc] at h2; rw [hsl]; exact ⟨by omega, by omega⟩)) hown8 hg8 (by simpa using hv8))
            have HBN := Lib.hid (show Below w.heap.size w w8 from (HB1.out.trans ((HB71.out.mono (by omega)).alloc (by omega) _)).trans hb8)
            clear hown8 hg8 hv8 hb8 hbl hsl hz97 HC HO HLN HEN HOV HB71 HB7 hlt7 hg1 hlo
            go_wp2
            go_roundw
            case rel => exact ⟨j + 1, av2, cv2, by go_num, rfl, by omega, Lib.hid ⟨_, HDN.out⟩, HBN⟩
            case measure => simp [intOf]; omega
    · obtain rfl : j = n + 1 := by omega
      obtain ⟨ms, hd⟩ := hD.out
      have hlad := HL.out
      have HSO := Lib.hid (fun (v : World) (hv : Below w1.heap.size w1 v) => solve_any ms av (n + 1) cv 1 (dmat s e n g) v ((hd.rows (by omega)).below hv) (by omega) (by omega) hlad.only (fun i j _ _ => drow_bd hlad i j) (kz_le7 (by omega)))
      have HB1 := Lib.hid hB.out
      have j1 : ¬ ((n : Int) + 1 ≤ (n : Int)) := by omega
      clear hd hlad hD hB
      go_wp2_with fail
      refine (HSO.out _ (Below.refl _ _)).mono ?_
      rintro e5 w5 ⟨a', c', rfl, hb5, x, ys, hsol, hsl, hent⟩
      have HP := Lib.hid (And.intro (hsl.mono hz1) (fun k (hk : k < n + 1) => by
        have h := hent k hk
        rw [HL.out.solved hsol hk] at h
        exact h))
      have HB5 := Lib.hid (HB1.out.trans (hb5.mono hz1))
      clear hb5 hsol hsl hent HSO
      go_wp2
      go_ret
      exact ⟨a', c', rfl, HB5.out, ys, HP.out.1, HP.out.2⟩
end Go.Proofs.YtbjgklifmillgaaGreat
