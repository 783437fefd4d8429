import Derived.Test.YthkekjgdknnaiaaGreatBcmp
import Derived.Test.YthkekjgdknnaiaaGreatDSer
import Derived.Test.YthkekjgdknnaiaaGreatMQTail
import Derived.Test.YthkekjgdknnaiaaGreatMRGcd
/- Series: the reference's check, copies, comparison. -/
namespace Go.Proofs.YthkekjgdknnaiaaGreat
open Go.RowKit
set_option linter.unusedVariables false

theorem infoPul : (Tryz.prog.info? 127).map (fun i => (i.zero, i.size, i.bytes)) = some (some (.agg #[.int .i64 0, .int .i64 0, .int .i64 0]), 3, 24) := by kernel_rfl
theorem isTick_any (n : Int) (w : World) : Calls Tryz.prog 127 #[.int .i64 n] w fun e' w' => e' = .returned (.bool (wi n 0 1000000000000)) ∧ w = w' := by
  have HX := Lib.hid (fun w' => bwithin_any n 0 1000000000000 w')
  go_enter Tryz.func127, Tryz.ntmps127
  go_wp2_with fail
  refine (HX.out _).mono ?_
  rintro e5 w5 ⟨rfl, rfl⟩
  go_wp2
  go_ret
  exact ⟨rfl, rfl⟩
theorem few9_any (s : Ser) (ap : Option Addr) (n cp : Nat) (w : World) (hn : n ≤ 9223372036854775807) (hs : s.nm.size ≤ maxLen) :
    Calls Tryz.prog 26 #[.agg #[.string s.nm, .int .i64 s.per, .int .i64 s.least, .int .i64 s.a, .int .i64 s.b, .int .i64 s.c, .int .i64 s.d, .slice ap n cp]] w
      fun e' w' => e' = .returned (.bool (decide (n ≤ 64) && decide (s.nm.size ≤ 30))) ∧ Below w.heap.size w w' := by
  obtain ⟨nm, per, least, a, b, c, d, l⟩ := s
  simp only at *
  have hsz : nm.size ≤ 9223372036854775807 := by unfold maxLen at hs; omega
  clear hs
  by_cases h : n ≤ 64
  · have h1 : decide ((n : Int) ≤ 64) = true := decide_eq_true (by omega)
    have h1' : ((n : Int) ≤ 64) = True := by simp; omega
    by_cases h2 : nm.size ≤ 30
    · have h3 : decide ((nm.size : Int) ≤ 30) = true := decide_eq_true (by omega)
      have h3' : ((nm.size : Int) ≤ 30) = True := by simp; omega
      go_enter Tryz.func26, Tryz.ntmps26
      go_wp2
      go_ret
      exact ⟨ret_bool (by simp [h, h2]), by (repeat' (first | (with_reducible exact Below.refl _ _) | (with_reducible assumption) | (with_reducible refine Below.drewN ?_ _) | (with_reducible refine Below.alloc ?_ ?_ _) | (with_reducible refine Below.drew ?_) | (with_reducible refine Below.setCell ?_ ?_ _) | (with_reducible refine Below.step (by assumption) ?_ ?_) | (with_reducible exact And.left (by assumption)) | go_size))⟩
    · have h3 : decide ((nm.size : Int) ≤ 30) = false := decide_eq_false (by omega)
      have h3' : ((nm.size : Int) ≤ 30) = False := by simp; omega
      go_enter Tryz.func26, Tryz.ntmps26
      go_wp2
      go_ret
      exact ⟨ret_bool (by simp [h, h2]), by (repeat' (first | (with_reducible exact Below.refl _ _) | (with_reducible assumption) | (with_reducible refine Below.drewN ?_ _) | (with_reducible refine Below.alloc ?_ ?_ _) | (with_reducible refine Below.drew ?_) | (with_reducible refine Below.setCell ?_ ?_ _) | (with_reducible refine Below.step (by assumption) ?_ ?_) | (with_reducible exact And.left (by assumption)) | go_size))⟩
  · have h1 : decide ((n : Int) ≤ 64) = false := decide_eq_false (by omega)
    have h1' : ((n : Int) ≤ 64) = False := by simp; omega
    go_enter Tryz.func26, Tryz.ntmps26
    go_wp2
    go_ret
    exact ⟨ret_bool (by simp [h]), by (repeat' (first | (with_reducible exact Below.refl _ _) | (with_reducible assumption) | (with_reducible refine Below.drewN ?_ _) | (with_reducible refine Below.alloc ?_ ?_ _) | (with_reducible refine Below.drew ?_) | (with_reducible refine Below.setCell ?_ ?_ _) | (with_reducible refine Below.step (by assumption) ?_ ?_) | (with_reducible exact And.left (by assumption)) | go_size))⟩
set_option maxHeartbeats 1000000 in
set_option maxRecDepth 100000 in
theorem copySeries_any (s : Ser) (ap : Option Addr) (n cp : Nat) (w : World) (hl : T3R w ap n s.l) (hn : n ≤ 100000) :
    Calls Tryz.prog 28 #[.agg #[.string s.nm, .int .i64 s.per, .int .i64 s.least, .int .i64 s.a, .int .i64 s.b, .int .i64 s.c, .int .i64 s.d, .slice ap n cp]] w
      fun e' w' => ∃ a' c', e' = .returned (.agg #[.string s.nm, .int .i64 s.per, .int .i64 s.least, .int .i64 s.a, .int .i64 s.b, .int .i64 s.c, .int .i64 s.d, .slice a' n c']) ∧ Below w.heap.size w w' ∧ T3R w' a' n s.l ∧ w'.ownsRow w.heap.size 127 3 (.slice a' n c') n (ecells e3 s.l) := by
  obtain ⟨nm, per, least, a, b, c, d, l⟩ := s
  simp only at *
  have HLN := Lib.hid hl.len
  have H := Lib.hid hl
  clear hl
  have HOA := Lib.hid (show (((w.alloc (Obj.cells #[.string nm, .int .i64 per, .int .i64 least, .int .i64 a, .int .i64 b, .int .i64 c, .int .i64 d, .slice ap n cp] 56)).alloc (Obj.cells #[.string ⟨#[]⟩, .int .i64 0, .int .i64 0, .int .i64 0, .int .i64 0, .int .i64 0, .int .i64 0, .slice none 0 0] 56)).alloc (Obj.cells #[] 127)).ownsRow (w.heap.size + 1 + 1) 127 3 (.slice (some ⟨w.heap.size + 1 + 1, 0, none⟩) 0 0) 0 [] by
    have := World.ownsRow_made (base := w.heap.size + 1 + 1) (e := 127) (size := 3) ((w.alloc (Obj.cells #[.string nm, .int .i64 per, .int .i64 least, .int .i64 a, .int .i64 b, .int .i64 c, .int .i64 d, .slice ap n cp] 56)).alloc (Obj.cells #[.string ⟨#[]⟩, .int .i64 0, .int .i64 0, .int .i64 0, .int .i64 0, .int .i64 0, .int .i64 0, .slice none 0 0] 56)) #[] 0 (by simp) (by simp [maxLen]) rfl
    simpa using this)
  go_enter Tryz.func28, Tryz.ntmps28
  go_wp2_with (at_builtin; refine wpList_append_sl _ rfl _ _ 54 rfl (w.heap.size + 1 + 1) 127 _ 3 24 Tryz.underlying54 infoPul rfl (by omega) (.slice (some ⟨w.heap.size + 1 + 1, 0, none⟩) 0 0) 0 [] rfl HOA.out _ n cp (ecells e3 l) rfl (ER.below H.out (by (repeat' (first | (with_reducible exact Below.refl _ _) | (with_reducible assumption) | (with_reducible refine Below.drewN ?_ _) | (with_reducible refine Below.alloc ?_ ?_ _) | (with_reducible refine Below.drew ?_) | (with_reducible refine Below.setCell ?_ ?_ _) | (with_reducible refine Below.step (by assumption) ?_ ?_) | (with_reducible exact And.left (by assumption)) | go_size)))).2 (ecells_ones e3_one l) (by omega) (by omega) (by rw [World.size_alloc, World.size_alloc, World.size_alloc]; omega) ?_)
  intro v2 w2 hown2 _ hb2
  obtain ⟨a', c', rfl, _, _⟩ := owns_slice hown2
  have hbw : Below (w.heap.size + 1 + 1) ((w.alloc (Obj.cells #[.string nm, .int .i64 per, .int .i64 least, .int .i64 a, .int .i64 b, .int .i64 c, .int .i64 d, .slice ap n cp] 56)).alloc (Obj.cells #[.string ⟨#[]⟩, .int .i64 0, .int .i64 0, .int .i64 0, .int .i64 0, .int .i64 0, .int .i64 0, .slice none 0 0] 56)) w2 := Below.trans (by (repeat' (first | (with_reducible exact Below.refl _ _) | (with_reducible assumption) | (with_reducible refine Below.drewN ?_ _) | (with_reducible refine Below.alloc ?_ ?_ _) | (with_reducible refine Below.drew ?_) | (with_reducible refine Below.setCell ?_ ?_ _) | (with_reducible refine Below.step (by assumption) ?_ ?_) | (with_reducible exact And.left (by assumption)) | go_size))) hb2
  have x0 : w2.cell? ⟨w.heap.size, 0, none⟩ = some (.string nm) := by rw [cellB hbw _ _ (by omega)]; go_simp
  have x1 : w2.cell? ⟨w.heap.size, 1, none⟩ = some (.int .i64 per) := by rw [cellB hbw _ _ (by omega)]; go_simp
  have x2 : w2.cell? ⟨w.heap.size, 2, none⟩ = some (.int .i64 least) := by rw [cellB hbw _ _ (by omega)]; go_simp
  have x3 : w2.cell? ⟨w.heap.size, 3, none⟩ = some (.int .i64 a) := by rw [cellB hbw _ _ (by omega)]; go_simp
  have x4 : w2.cell? ⟨w.heap.size, 4, none⟩ = some (.int .i64 b) := by rw [cellB hbw _ _ (by omega)]; go_simp
  have x5 : w2.cell? ⟨w.heap.size, 5, none⟩ = some (.int .i64 c) := by rw [cellB hbw _ _ (by omega)]; go_simp
  have x6 : w2.cell? ⟨w.heap.size, 6, none⟩ = some (.int .i64 d) := by rw [cellB hbw _ _ (by omega)]; go_simp
  have x7 : w2.cell? ⟨w.heap.size, 7, none⟩ = some (.slice ap n cp) := by rw [cellB hbw _ _ (by omega)]; go_simp
  have g7 : w2.frozen? ⟨w.heap.size, 7, none⟩ = false := by rw [frozenB hbw _ _ (by omega)]; go_simp
  have z0 : w2.cell? ⟨w.heap.size + 1, 0, none⟩ = some (.string ⟨#[]⟩) := by rw [cellB hbw _ _ (by omega)]; go_simp
  have f0 : w2.frozen? ⟨w.heap.size + 1, 0, none⟩ = false := by rw [frozenB hbw _ _ (by omega)]; go_simp
  have z1 : w2.cell? ⟨w.heap.size + 1, 1, none⟩ = some (.int .i64 0) := by rw [cellB hbw _ _ (by omega)]; go_simp
  have f1 : w2.frozen? ⟨w.heap.size + 1, 1, none⟩ = false := by rw [frozenB hbw _ _ (by omega)]; go_simp
  have z2 : w2.cell? ⟨w.heap.size + 1, 2, none⟩ = some (.int .i64 0) := by rw [cellB hbw _ _ (by omega)]; go_simp
  have f2 : w2.frozen? ⟨w.heap.size + 1, 2, none⟩ = false := by rw [frozenB hbw _ _ (by omega)]; go_simp
  have z3 : w2.cell? ⟨w.heap.size + 1, 3, none⟩ = some (.int .i64 0) := by rw [cellB hbw _ _ (by omega)]; go_simp
  have f3 : w2.frozen? ⟨w.heap.size + 1, 3, none⟩ = false := by rw [frozenB hbw _ _ (by omega)]; go_simp
  have z4 : w2.cell? ⟨w.heap.size + 1, 4, none⟩ = some (.int .i64 0) := by rw [cellB hbw _ _ (by omega)]; go_simp
  have f4 : w2.frozen? ⟨w.heap.size + 1, 4, none⟩ = false := by rw [frozenB hbw _ _ (by omega)]; go_simp
  have z5 : w2.cell? ⟨w.heap.size + 1, 5, none⟩ = some (.int .i64 0) := by rw [cellB hbw _ _ (by omega)]; go_simp
  have f5 : w2.frozen? ⟨w.heap.size + 1, 5, none⟩ = false := by rw [frozenB hbw _ _ (by omega)]; go_simp
  have z6 : w2.cell? ⟨w.heap.size + 1, 6, none⟩ = some (.int .i64 0) := by rw [cellB hbw _ _ (by omega)]; go_simp
  have f6 : w2.frozen? ⟨w.heap.size + 1, 6, none⟩ = false := by rw [frozenB hbw _ _ (by omega)]; go_simp
  have z7 : w2.cell? ⟨w.heap.size + 1, 7, none⟩ = some (.slice none 0 0) := by rw [cellB hbw _ _ (by omega)]; go_simp
  have f7 : w2.frozen? ⟨w.heap.size + 1, 7, none⟩ = false := by rw [frozenB hbw _ _ (by omega)]; go_simp
  have hz2 := hbw.size
  simp only [World.size_alloc] at hz2
  have l1 : w.heap.size + 1 < w2.heap.size := by omega
  have l0 : w.heap.size < w2.heap.size := by omega
  have HB := Lib.hid (show Below w.heap.size w w2 from Below.trans (by (repeat' (first | (with_reducible exact Below.refl _ _) | (with_reducible assumption) | (with_reducible refine Below.drewN ?_ _) | (with_reducible refine Below.alloc ?_ ?_ _) | (with_reducible refine Below.drew ?_) | (with_reducible refine Below.setCell ?_ ?_ _) | (with_reducible refine Below.step (by assumption) ?_ ?_) | (with_reducible exact And.left (by assumption)) | go_size))) (hbw.mono (by omega)))
  have HO := Lib.hid (show w2.ownsRow (w.heap.size + 1 + 1) 127 3 (.slice a' n c') n (ecells e3 l) by simpa using hown2)
  clear hown2 hb2 hbw hz2 HOA
  go_wp2_with fail
  generalize hW : World.setCell _ _ _ = w3
  have r0 : w3.cell? ⟨w.heap.size + 1, 0, none⟩ = some (.string nm) := by { rw [← hW]; clear hW; go_simp }
  have r1 : w3.cell? ⟨w.heap.size + 1, 1, none⟩ = some (.int .i64 per) := by { rw [← hW]; clear hW; go_simp }
  have r2 : w3.cell? ⟨w.heap.size + 1, 2, none⟩ = some (.int .i64 least) := by { rw [← hW]; clear hW; go_simp }
  have r3 : w3.cell? ⟨w.heap.size + 1, 3, none⟩ = some (.int .i64 a) := by { rw [← hW]; clear hW; go_simp }
  have r4 : w3.cell? ⟨w.heap.size + 1, 4, none⟩ = some (.int .i64 b) := by { rw [← hW]; clear hW; go_simp }
  have r5 : w3.cell? ⟨w.heap.size + 1, 5, none⟩ = some (.int .i64 c) := by { rw [← hW]; clear hW; go_simp }
  have r6 : w3.cell? ⟨w.heap.size + 1, 6, none⟩ = some (.int .i64 d) := by { rw [← hW]; clear hW; go_simp }
  have r7 : w3.cell? ⟨w.heap.size + 1, 7, none⟩ = some (.slice a' n c') := by { rw [← hW]; clear hW; go_simp }
  have hb3 : Below w.heap.size w w3 := by { rw [← hW]; have := HB.out; (repeat' (first | (with_reducible exact Below.refl _ _) | (with_reducible assumption) | (with_reducible refine Below.drewN ?_ _) | (with_reducible refine Below.alloc ?_ ?_ _) | (with_reducible refine Below.drew ?_) | (with_reducible refine Below.setCell ?_ ?_ _) | (with_reducible refine Below.step (by assumption) ?_ ?_) | (with_reducible exact And.left (by assumption)) | go_size)) }
  have ho3 : w3.ownsRow (w.heap.size + 1 + 1) 127 3 (.slice a' n c') n (ecells e3 l) := by { rw [← hW]; have := HO.out; (repeat' (first | (with_reducible assumption) | ((with_reducible refine owns_lit ?_ ?_ ?_ ?_) <;> first | (simp; done) | (simp; omega) | omega) | (with_reducible refine World.ownsRow.alloc ?_ _) | (with_reducible refine World.ownsRow.drew ?_) | (with_reducible refine owns_drewN ?_ _) | (with_reducible refine ownsRow_setCell_below ?_ ?_ _) | (simp; done) | (simp; omega) | omega)) }
  clear hW
  exact bodyPost_ret (v := .agg #[.string nm, .int .i64 per, .int .i64 least, .int .i64 a, .int .i64 b, .int .i64 c, .int .i64 d, .slice a' n c']) (by simp [results, Tryz.results28, go_sem, r0, r1, r2, r3, r4, r5, r6, r7]) rfl ⟨a', c', rfl, hb3, ER.of_owns HLN.out ho3, owns_mono ho3 (by omega)⟩
theorem serE_head {s : Ser} {e : Int} (h : headE s = e) (h0 : e ≠ 0) : serE s = (0, e) := by
  unfold serE; rw [if_pos (by rw [h]; exact h0), h]
theorem firstAt_here {f : Nat → Int} {n k : Nat} {V : Int × Int} {E : Int} (h : firstAt f (n - k) k = V) (hk : k < n) (hE : E = f k) : V = if E ≠ 0 then ((k : Int), E) else firstAt f (n - (k + 1)) (k + 1) := by
  rw [← h, firstAt_step hk, hE]
set_option maxHeartbeats 2000000 in
set_option maxRecDepth 100000 in
theorem rCheckSeries_any (s : Ser) (ap : Option Addr) (n cp : Nat) (w : World) (hw : SerW s) (hl : T3R w ap n s.l) :
    Calls Tryz.prog 63 #[.agg #[.string s.nm, .int .i64 s.per, .int .i64 s.least, .int .i64 s.a, .int .i64 s.b, .int .i64 s.c, .int .i64 s.d, .slice ap n cp]] w fun e' w' => e' = .returned (.tuple #[.int .i64 (serE s).1, .int .i64 (serE s).2]) ∧ Below w.heap.size w w' := by
  have hn := hl.small
  have HL := Lib.hid hl
  have HN := Lib.hid (fun w' => isNameB_any s.nm w' hw.1)
  have HX := Lib.hid (fun (x a b : Int) w' => bwithin_any x a b w')
  have HT := Lib.hid (fun (x : Int) w' => isTick_any x w')
  have HL1 := Lib.hid (fun w' => b_isLowest_any s.a s.b w' hw.2.1.1 hw.2.1.2 hw.2.2.1)
  have HL2 := Lib.hid (fun w' => b_isLowest_any s.c s.d w' hw.2.2.2.1.1 hw.2.2.2.1.2 hw.2.2.2.2)
  obtain ⟨V, hV⟩ : ∃ V, V = serE s := ⟨_, rfl⟩
  have HVH := Lib.hid (show ∀ e, headE s = e → e ≠ 0 → V = (0, e) from fun e h h0 => hV.trans (serE_head h h0))
  have HVL := Lib.hid (show headE s = 0 → firstAt (pulE s.l) n 0 = V from fun h => by rw [hV]; unfold serE; rw [if_neg (by rw [h]; decide), hl.len])
  have hh : headE s = firstErr [unl (nameOk s.nm) 4, unl (wi s.per 1 1000000 && wi s.least 1 60) 2, calE s.a s.b s.c s.d, unl (decide ((n : Int) ≤ 60)) 8] := by unfold headE; rw [hl.len]
  rw [← hV]
  have HCE := Lib.hid (show calE s.a s.b s.c s.d = if (isLow s.a s.b && isLow s.c s.d) = true then (if ((wi s.a 1 1000000000 && wi s.b 1 1000000000) && (wi s.c 1 1000000000 && wi s.d 1 1000000000)) = true then (if s.a * s.d ≤ s.c * s.b then 0 else 9) else 2) else 3 from rfl)
  have HP1 := Lib.hid (show isLow s.a s.b = true → 0 < s.b from fun h => by unfold isLow at h; rw [Bool.and_eq_true] at h; exact of_decide_eq_true h.1)
  have HP2 := Lib.hid (show isLow s.c s.d = true → 0 < s.d from fun h => by unfold isLow at h; rw [Bool.and_eq_true] at h; exact of_decide_eq_true h.1)
  generalize calE s.a s.b s.c s.d = CE at *
  generalize headE s = H at *
  obtain ⟨V1, V2⟩ := V
  simp only
  clear hV hl hw
  obtain ⟨nm, per, least, a, b, c, d, l⟩ := s
  simp only at *
  have HW1 := Lib.hid (HX.out per 1 1000000)
  have HW2 := Lib.hid (HX.out least 1 60)
  have HW3 := Lib.hid (HX.out a 1 1000000000)
  have HW4 := Lib.hid (HX.out c 1 1000000000)
  have HB2 := Lib.hid (@wi_iff b 1 1000000000)
  have HD2 := Lib.hid (@wi_iff d 1 1000000000)
  have HA2 := Lib.hid (@wi_iff a 1 1000000000)
  have HC2 := Lib.hid (@wi_iff c 1 1000000000)
  have HH := Lib.hid hh
  clear hh
  generalize nameOk nm = B1 at *
  generalize wi per 1 1000000 = B2 at *
  generalize wi least 1 60 = B3 at *
  generalize isLow a b = L1 at *
  generalize isLow c d = L2 at *
  generalize wi a 1 1000000000 = A1 at *
  generalize wi c 1 1000000000 = C1 at *
  generalize wi b 1 1000000000 = A2 at *
  generalize wi d 1 1000000000 = C2 at *
  go_enter Tryz.func63, Tryz.ntmps63
  go_wp2_with fail
  generalize hW : World.alloc _ _ = w4
  have hb4 : Below w.heap.size w w4 := by rw [← hW]; (repeat' (first | (with_reducible exact Below.refl _ _) | (with_reducible assumption) | (with_reducible refine Below.drewN ?_ _) | (with_reducible refine Below.alloc ?_ ?_ _) | (with_reducible refine Below.drew ?_) | (with_reducible refine Below.setCell ?_ ?_ _) | (with_reducible refine Below.step (by assumption) ?_ ?_) | (with_reducible exact And.left (by assumption)) | go_size))
  have x1 : w4.cell? ⟨w.heap.size, 1, none⟩ = some (.int .i64 per) := by { rw [← hW]; clear hW; go_simp }
  have x2 : w4.cell? ⟨w.heap.size, 2, none⟩ = some (.int .i64 least) := by { rw [← hW]; clear hW; go_simp }
  have x3 : w4.cell? ⟨w.heap.size, 3, none⟩ = some (.int .i64 a) := by { rw [← hW]; clear hW; go_simp }
  have x4 : w4.cell? ⟨w.heap.size, 4, none⟩ = some (.int .i64 b) := by { rw [← hW]; clear hW; go_simp }
  have x5 : w4.cell? ⟨w.heap.size, 5, none⟩ = some (.int .i64 c) := by { rw [← hW]; clear hW; go_simp }
  have x6 : w4.cell? ⟨w.heap.size, 6, none⟩ = some (.int .i64 d) := by { rw [← hW]; clear hW; go_simp }
  have x7 : w4.cell? ⟨w.heap.size, 7, none⟩ = some (.slice ap n cp) := by { rw [← hW]; clear hW; go_simp }
  have l0 : w.heap.size < w4.heap.size := by { rw [← hW]; clear hW; simp }
  have HB := Lib.hid hb4
  clear hW hb4
  refine (HN.out _).mono ?_
  rintro e5 w5 ⟨rfl, rfl⟩
  cases B1
  · skip
    obtain ⟨rfl, rfl⟩ : V1 = 0 ∧ V2 = 4 := by have := HVH.out 4 (by rw [HH.out]; simp [firstErr, unl]) (by decide); simpa using this
    go_wp2
    go_ret2
    exact ⟨rfl, HB.out⟩
  go_wp2_with fail
  refine (HW1.out _).mono ?_
  rintro e5 w5 ⟨rfl, rfl⟩
  cases B2
  · skip
    obtain ⟨rfl, rfl⟩ : V1 = 0 ∧ V2 = 2 := by have := HVH.out 2 (by rw [HH.out]; simp [firstErr, unl]) (by decide); simpa using this
    go_wp2
    go_ret2
    exact ⟨rfl, HB.out⟩
  go_wp2_with fail
  refine (HW2.out _).mono ?_
  rintro e5 w5 ⟨rfl, rfl⟩
  cases B3
  · skip
    obtain ⟨rfl, rfl⟩ : V1 = 0 ∧ V2 = 2 := by have := HVH.out 2 (by rw [HH.out]; simp [firstErr, unl]) (by decide); simpa using this
    go_wp2
    go_ret2
    exact ⟨rfl, HB.out⟩
  go_wp2_with fail
  generalize hW : World.alloc _ _ = w5
  have hb5 : Below w4.heap.size w4 w5 := by rw [← hW]; (repeat' (first | (with_reducible exact Below.refl _ _) | (with_reducible assumption) | (with_reducible refine Below.drewN ?_ _) | (with_reducible refine Below.alloc ?_ ?_ _) | (with_reducible refine Below.drew ?_) | (with_reducible refine Below.setCell ?_ ?_ _) | (with_reducible refine Below.step (by assumption) ?_ ?_) | (with_reducible exact And.left (by assumption)) | go_size))
  have y0 : w5.cell? ⟨w4.heap.size, 0, none⟩ = some (.int .i64 a) := by { rw [← hW]; clear hW; go_simp }
  have y1 : w5.cell? ⟨w4.heap.size, 1, none⟩ = some (.int .i64 b) := by { rw [← hW]; clear hW; go_simp }
  have y2 : w5.cell? ⟨w4.heap.size, 2, none⟩ = some (.int .i64 c) := by { rw [← hW]; clear hW; go_simp }
  have y3 : w5.cell? ⟨w4.heap.size, 3, none⟩ = some (.int .i64 d) := by { rw [← hW]; clear hW; go_simp }
  have ly : w4.heap.size < w5.heap.size := by { rw [← hW]; clear hW; simp }
  have hz5 := hb5.size
  have x7d : w5.cell? ⟨w.heap.size, 7, none⟩ = some (.slice ap n cp) := by { rw [cellB hb5 _ _ (by first | (simp; done) | (simp; omega) | omega)]; all_goals (first | assumption | go_simp) }; have l0d : w.heap.size < w5.heap.size := by { omega }
  have HB := Lib.hid (HB.out.trans (hb5.mono HB.out.size))
  obtain ⟨X4, hX4⟩ : ∃ X, X = w4.heap.size := ⟨_, rfl⟩
  rw [← hX4] at y0 y1 y2 y3 ly ⊢
  clear hW hb5 hX4 hz5 x1 x2 x3 x4 x5 x6 x7 l0
  refine (HL1.out _).mono ?_
  rintro e6 w6 ⟨rfl, hb6⟩
  have hz6 := hb6.size
  have x7 : w6.cell? ⟨w.heap.size, 7, none⟩ = some (.slice ap n cp) := by { rw [cellB hb6 _ _ (by first | (simp; done) | (simp; omega) | omega)]; all_goals (first | assumption | go_simp) }; have l0 : w.heap.size < w6.heap.size := by { omega }; have y0d : w6.cell? ⟨X4, 0, none⟩ = some (.int .i64 a) := by { rw [cellB hb6 _ _ (by first | (simp; done) | (simp; omega) | omega)]; all_goals (first | assumption | go_simp) }; have y1d : w6.cell? ⟨X4, 1, none⟩ = some (.int .i64 b) := by { rw [cellB hb6 _ _ (by first | (simp; done) | (simp; omega) | omega)]; all_goals (first | assumption | go_simp) }; have y2d : w6.cell? ⟨X4, 2, none⟩ = some (.int .i64 c) := by { rw [cellB hb6 _ _ (by first | (simp; done) | (simp; omega) | omega)]; all_goals (first | assumption | go_simp) }; have y3d : w6.cell? ⟨X4, 3, none⟩ = some (.int .i64 d) := by { rw [cellB hb6 _ _ (by first | (simp; done) | (simp; omega) | omega)]; all_goals (first | assumption | go_simp) }; have lyd : X4 < w6.heap.size := by { omega }
  have HB := Lib.hid (HB.out.trans (hb6.mono HB.out.size))
  clear hb6 hz6 x7d l0d y0 y1 y2 y3 ly
  cases L1
  · skip
    obtain ⟨rfl, rfl⟩ : V1 = 0 ∧ V2 = 3 := by have := HVH.out 3 (by rw [HH.out]; simp [HCE.out, firstErr, unl]) (by decide); simpa using this
    go_wp2
    go_ret2
    exact ⟨rfl, HB.out⟩
  go_wp2_with fail
  refine (HL2.out _).mono ?_
  rintro e7 w7 ⟨rfl, hb7⟩
  have hz7 := hb7.size
  have x7d : w7.cell? ⟨w.heap.size, 7, none⟩ = some (.slice ap n cp) := by { rw [cellB hb7 _ _ (by first | (simp; done) | (simp; omega) | omega)]; all_goals (first | assumption | go_simp) }; have l0d : w.heap.size < w7.heap.size := by { omega }; have y0 : w7.cell? ⟨X4, 0, none⟩ = some (.int .i64 a) := by { rw [cellB hb7 _ _ (by first | (simp; done) | (simp; omega) | omega)]; all_goals (first | assumption | go_simp) }; have y1 : w7.cell? ⟨X4, 1, none⟩ = some (.int .i64 b) := by { rw [cellB hb7 _ _ (by first | (simp; done) | (simp; omega) | omega)]; all_goals (first | assumption | go_simp) }; have y2 : w7.cell? ⟨X4, 2, none⟩ = some (.int .i64 c) := by { rw [cellB hb7 _ _ (by first | (simp; done) | (simp; omega) | omega)]; all_goals (first | assumption | go_simp) }; have y3 : w7.cell? ⟨X4, 3, none⟩ = some (.int .i64 d) := by { rw [cellB hb7 _ _ (by first | (simp; done) | (simp; omega) | omega)]; all_goals (first | assumption | go_simp) }; have ly : X4 < w7.heap.size := by { omega }
  have HB := Lib.hid (HB.out.trans (hb7.mono HB.out.size))
  clear hb7 hz7 x7 l0 y0d y1d y2d y3d lyd
  cases L2
  · skip
    obtain ⟨rfl, rfl⟩ : V1 = 0 ∧ V2 = 3 := by have := HVH.out 3 (by rw [HH.out]; simp [HCE.out, firstErr, unl]) (by decide); simpa using this
    go_wp2
    go_ret2
    exact ⟨rfl, HB.out⟩
  have hp1 := HP1.out (by first | rfl | trivial)
  have hp2 := HP2.out (by first | rfl | trivial)
  go_wp2_with fail
  refine (HW3.out _).mono ?_
  rintro e5 w5 ⟨rfl, rfl⟩
  cases A1
  · skip
    obtain ⟨rfl, rfl⟩ : V1 = 0 ∧ V2 = 2 := by have := HVH.out 2 (by rw [HH.out]; simp [HCE.out, firstErr, unl]) (by decide); simpa using this
    go_wp2
    go_ret2
    exact ⟨rfl, HB.out⟩
  go_wp2_with fail
  refine (HW4.out _).mono ?_
  rintro e5 w5 ⟨rfl, rfl⟩
  cases C1
  · skip
    obtain ⟨rfl, rfl⟩ : V1 = 0 ∧ V2 = 2 := by have := HVH.out 2 (by rw [HH.out]; simp [HCE.out, firstErr, unl]) (by decide); simpa using this
    go_wp2
    go_ret2
    exact ⟨rfl, HB.out⟩
  cases A2
  · have g1 : (1000000000 < b) = True := by have := HB2.out; simp at this; simp; omega
    have g1' : decide (1000000000 < b) = true := by simpa using g1
    clear hp1 hp2
    obtain ⟨rfl, rfl⟩ : V1 = 0 ∧ V2 = 2 := by have := HVH.out 2 (by rw [HH.out]; simp [HCE.out, firstErr, unl]) (by decide); simpa using this
    go_wp2
    go_ret2
    exact ⟨rfl, HB.out⟩
  have g1 : (1000000000 < b) = False := by have := HB2.out; simp at this; simp; omega
  have g1' : decide (1000000000 < b) = false := by simpa using g1
  cases C2
  · have g2 : (1000000000 < d) = True := by have := HD2.out; simp at this; simp; omega
    have g2' : decide (1000000000 < d) = true := by simpa using g2
    clear hp1 hp2
    obtain ⟨rfl, rfl⟩ : V1 = 0 ∧ V2 = 2 := by have := HVH.out 2 (by rw [HH.out]; simp [HCE.out, firstErr, unl]) (by decide); simpa using this
    go_wp2
    go_ret2
    exact ⟨rfl, HB.out⟩
  have g2 : (1000000000 < d) = False := by have := HD2.out; simp at this; simp; omega
  have g2' : decide (1000000000 < d) = false := by simpa using g2
  have hbb := HB2.out.1 (by first | rfl | trivial)
  have hdd := HD2.out.1 (by first | rfl | trivial)
  have haa := HA2.out.1 (by first | rfl | trivial)
  have hcc := HC2.out.1 (by first | rfl | trivial)
  have m1 : 0 ≤ a * d ∧ a * d ≤ 1000000000000000000 := ⟨Int.mul_nonneg (by omega) (by omega), by have := Int.mul_le_mul haa.2 hdd.2 (by omega) (by omega); omega⟩
  have m2 : 0 ≤ c * b ∧ c * b ≤ 1000000000000000000 := ⟨Int.mul_nonneg (by omega) (by omega), by have := Int.mul_le_mul hcc.2 hbb.2 (by omega) (by omega); omega⟩
  have HCM := Lib.hid (fun w' => bcmpJ_any a b c d w' (by omega) (by omega))
  clear hp1 hp2 m1 m2 hbb hdd haa hcc
  go_wp2_with fail
  refine (HCM.out _).mono ?_
  rintro e8 w8 ⟨rfl, hb8⟩
  have hz8 := hb8.size
  have x7 : w8.cell? ⟨w.heap.size, 7, none⟩ = some (.slice ap n cp) := by { rw [cellB hb8 _ _ (by first | (simp; done) | (simp; omega) | omega)]; all_goals (first | assumption | go_simp) }; have l0 : w.heap.size < w8.heap.size := by { omega }
  have HB := Lib.hid (HB.out.trans (hb8.mono HB.out.size))
  clear hb8 hz8 x7d l0d y0 y1 y2 y3 ly HCM g1 g1' g2 g2'
  by_cases hle : a * d ≤ c * b
  · have u1 : decide (0 < cmpJ (a * d) (c * b)) = false := by apply decide_eq_false; unfold cmpJ; split <;> (try split) <;> omega
    have u1' : (0 < cmpJ (a * d) (c * b)) = False := by simpa using u1
    have HCE0 := Lib.hid (show CE = 0 by rw [HCE.out]; simp [hle])
    clear hle HCE
    generalize cmpJ (a * d) (c * b) = G at *
    by_cases hn6 : n ≤ 60
    · have u2 : (60 < (n : Int)) = False := by simp; omega
      have u2' : decide (60 < (n : Int)) = false := decide_eq_false (by omega)
      have h00 : H = 0 := by rw [HH.out, HCE0.out, decide_eq_true (show (n : Int) ≤ 60 by omega)]; simp [firstErr, unl]
      have HVL0 := Lib.hid (HVL.out h00)
      clear h00 HVL HVH HH HCE0
      go_wp2_with fail
      go_loopw [5] (fun i wr => ∃ k : Nat, i = .int .i64 k ∧ k ≤ n ∧ Hid (firstAt (pulE l) (n - k) k = (V1, V2)) ∧ Hid (Below w8.heap.size w8 wr)) (fun i _ => n - (intOf i).toNat)
      case atStart => exact ⟨0, rfl, Nat.zero_le _, Lib.hid HVL0.out, Lib.hid (Below.refl _ _)⟩
      case round =>
        obtain ⟨k, rfl, hk, hF, hB⟩ := hrel
        have i0 : (0 : Int) ≤ (k : Int) := by omega
        have hbr := hB.out
        have hzr := hbr.size
        have HBW := Lib.hid (HB.out.trans (hbr.mono HB.out.size))
        have x7d : wr.cell? ⟨w.heap.size, 7, none⟩ = some (.slice ap n cp) := by { rw [cellB hbr _ _ (by first | (simp; done) | (simp; omega) | omega)]; all_goals (first | assumption | go_simp) }; have l0d : w.heap.size < wr.heap.size := by { omega }
        by_cases hlt : k < n
        · have i1 : (k : Int) < (n : Int) := by omega
          obtain ⟨b0, o0, rfl, hb0, hcs⟩ := (HL.out.below HBW.out).addr (by omega)
          obtain ⟨⟨x, y, z⟩, hx⟩ := ER.get HL.out hlt
          obtain ⟨c0, c1, c2⟩ := hcs k _ hx
          have hA := pAt_get hx
          obtain ⟨E, hEE⟩ : ∃ E, E = pulE l k := ⟨_, rfl⟩
          have HF := Lib.hid (firstAt_here hF.out hlt hEE)
          have HE := Lib.hid (show E = firstErr [unl ((wi x 0 1000000000000 && wi y (-4096) 4096) && wi z 1 100) 2, unl (y != 0) 11, unl (decide (k = 0) || decide ((pAt l (k - 1)).x < x)) 9] by rw [hEE]; unfold pulE pulR; rw [hA])
          have hpr : ∃ v : Int, (pAt l (k - 1)).x = v ∧ (k ≠ 0 → wr.cell? ⟨b0, o0 + (k - 1) * 3, none⟩ = some (.int .i64 v)) := by
            refine ⟨_, rfl, fun hk0 => ?_⟩
            obtain ⟨p', hp'⟩ := ER.get HL.out (show k - 1 < n by omega)
            have := (hcs (k - 1) _ hp').1
            rw [pAt_get hp']; exact this
          obtain ⟨v, hv, hvc⟩ := hpr
          rw [hv] at HE
          have HVC := Lib.hid hvc
          have hT1 := HT.out x
          have hT2 := HX.out y (-4096) 4096
          have hT3 := HX.out z 1 100
          have HT1 := Lib.hid hT1
          have HT2 := Lib.hid hT2
          have HT3 := Lib.hid hT3
          clear hEE hx hA hcs hv hvc hF hT1 hT2 hT3
          generalize wi x 0 1000000000000 = W1 at *
          generalize wi y (-4096) 4096 = W2 at *
          generalize wi z 1 100 = W3 at *
          go_wp2_with fail
          generalize hW : World.alloc _ _ = wd
          have hbd : Below wr.heap.size wr wd := by rw [← hW]; (repeat' (first | (with_reducible exact Below.refl _ _) | (with_reducible assumption) | (with_reducible refine Below.drewN ?_ _) | (with_reducible refine Below.alloc ?_ ?_ _) | (with_reducible refine Below.drew ?_) | (with_reducible refine Below.setCell ?_ ?_ _) | (with_reducible refine Below.step (by assumption) ?_ ?_) | (with_reducible exact And.left (by assumption)) | go_size))
          have y0 : wd.cell? ⟨wr.heap.size, 0, none⟩ = some (.int .i64 x) := by { rw [← hW]; clear hW; go_simp }
          have y1 : wd.cell? ⟨wr.heap.size, 1, none⟩ = some (.int .i64 y) := by { rw [← hW]; clear hW; go_simp }
          have y2 : wd.cell? ⟨wr.heap.size, 2, none⟩ = some (.int .i64 z) := by { rw [← hW]; clear hW; go_simp }
          have ly : wr.heap.size < wd.heap.size := by { rw [← hW]; clear hW; simp }
          have x7 : wd.cell? ⟨w.heap.size, 7, none⟩ = some (.slice (some ⟨b0, o0, none⟩) n cp) := by { rw [cellB hbd _ _ (by first | (simp; done) | (simp; omega) | omega)]; all_goals (first | assumption | go_simp) }; have l0 : w.heap.size < wd.heap.size := by { omega }; have hb0d : b0 < wd.heap.size := by { omega }
          have HVC := Lib.hid (show k ≠ 0 → wd.cell? ⟨b0, o0 + (k - 1) * 3, none⟩ = some (.int .i64 v) from fun h => by rw [cellB hbd _ _ hb0]; exact HVC.out h)
          have HBD := Lib.hid (HBW.out.trans (hbd.mono HBW.out.size))
          have HB9 := Lib.hid (hB.out.trans (hbd.mono hB.out.size))
          clear hW hbd hB x7d c0 c1 c2 hb0 HBW hbr hzr l0d
          refine (HT1.out _).mono ?_
          rintro e9 w9 ⟨rfl, rfl⟩
          cases W1
          · skip
            have hF := HF.out
            have hE0 : E = 2 := by rw [HE.out]; simp [firstErr, unl]
            rw [if_pos (by rw [hE0]; decide), hE0] at hF
            obtain ⟨rfl, rfl⟩ : V1 = (k : Int) ∧ V2 = 2 := by simpa using hF
            clear hF hE0
            go_wp2
            go_ret2
            exact ⟨rfl, HBD.out⟩
          go_wp2_with fail
          refine (HT2.out _).mono ?_
          rintro e9 w9 ⟨rfl, rfl⟩
          cases W2
          · skip
            have hF := HF.out
            have hE0 : E = 2 := by rw [HE.out]; simp [firstErr, unl]
            rw [if_pos (by rw [hE0]; decide), hE0] at hF
            obtain ⟨rfl, rfl⟩ : V1 = (k : Int) ∧ V2 = 2 := by simpa using hF
            clear hF hE0
            go_wp2
            go_ret2
            exact ⟨rfl, HBD.out⟩
          go_wp2_with fail
          refine (HT3.out _).mono ?_
          rintro e9 w9 ⟨rfl, rfl⟩
          cases W3
          · skip
            have hF := HF.out
            have hE0 : E = 2 := by rw [HE.out]; simp [firstErr, unl]
            rw [if_pos (by rw [hE0]; decide), hE0] at hF
            obtain ⟨rfl, rfl⟩ : V1 = (k : Int) ∧ V2 = 2 := by simpa using hF
            clear hF hE0
            go_wp2
            go_ret2
            exact ⟨rfl, HBD.out⟩
          by_cases hy : y = 0
          · subst hy
            have hF := HF.out
            have hE0 : E = 11 := by rw [HE.out]; simp [firstErr, unl]
            rw [if_pos (by rw [hE0]; decide), hE0] at hF
            obtain ⟨rfl, rfl⟩ : V1 = (k : Int) ∧ V2 = 11 := by simpa using hF
            clear hF hE0
            go_wp2
            go_ret2
            exact ⟨rfl, HBD.out⟩
          have hy1 : (y == 0) = false := by simpa using hy
          have HY := Lib.hid hy
          clear hy
          by_cases hk0 : k = 0
          · subst hk0
            go_wp2_with fail
            go_quiet (fail)
            have hE0 : E = 0 := by rw [HE.out]; simp [firstErr, unl, HY.out]
            have hF := HF.out
            rw [if_neg (by rw [hE0]; decide)] at hF
            have HF := Lib.hid hF.symm
            clear hF hE0
            go_wp2
            go_roundw
            case rel => exact ⟨0 + 1, by go_num, by omega, HF, Lib.hid (HB9.out.drewN _)⟩
            case measure => simp [intOf]; omega
          · have hkb : 0 < k := by omega
            have w1' : IntKind.i64.wrap ((k : Int) - 1) = (k : Int) - 1 := by rw [IntKind.wrap_i64]; omega
            have w2 : ((k : Int) - 1).toNat = k - 1 := by omega
            have w3 : (0 : Int) < (k : Int) := by omega
            have w4' : (0 : Int) ≤ (k : Int) - 1 := by omega
            have w5' : (k : Int) - 1 < (n : Int) := by omega
            have hvk := HVC.out hk0
            have HK0 := Lib.hid hk0
            clear HVC hk0
            by_cases hlx : v < x
            · have g3 : decide (x ≤ v) = false := decide_eq_false (by omega)
              have g3' : (x ≤ v) = False := by simp; omega
              have HLX := Lib.hid hlx
              clear hlx
              go_wp2_with fail
              go_quiet (fail)
              have hE0 : E = 0 := by rw [HE.out]; simp [firstErr, unl, HY.out, HLX.out]
              have hF := HF.out
              rw [if_neg (by rw [hE0]; decide)] at hF
              have HF := Lib.hid hF.symm
              clear hF hE0
              go_wp2
              go_roundw
              case rel => exact ⟨k + 1, by go_num, by omega, HF, Lib.hid (HB9.out.drewN _)⟩
              case measure => simp [intOf]; omega
            · have g3 : decide (x ≤ v) = true := decide_eq_true (by omega)
              have g3' : (x ≤ v) = True := by simp; omega
              have HLX := Lib.hid hlx
              clear hlx
              go_wp2_with fail
              go_quiet (fail)
              have hF := HF.out
              have hE0 : E = 9 := by rw [HE.out]; simp [firstErr, unl, HY.out, HK0.out, HLX.out]
              rw [if_pos (by rw [hE0]; decide), hE0] at hF
              obtain ⟨rfl, rfl⟩ : V1 = (k : Int) ∧ V2 = 9 := by simpa using hF
              clear hF hE0
              go_wp2
              go_ret2
              exact ⟨rfl, HBD.out.drewN _⟩
        · obtain rfl : k = n := by omega
          have hF := hF.out
          rw [firstAt_end (Nat.le_refl _)] at hF
          obtain ⟨rfl, rfl⟩ := Prod.mk.injEq .. ▸ hF
          go_wp2
          go_ret2
          exact ⟨rfl, HBW.out⟩
    · have u2 : (60 < (n : Int)) = True := by simp; omega
      have u2' : decide (60 < (n : Int)) = true := decide_eq_true (by omega)
      obtain ⟨rfl, rfl⟩ : V1 = 0 ∧ V2 = 8 := by have := HVH.out 8 (by rw [HH.out]; simp [HCE0.out, decide_eq_false (show ¬ (n : Int) ≤ 60 by omega), firstErr, unl]) (by decide); simpa using this
      go_wp2
      go_ret2
      exact ⟨rfl, HB.out⟩
  · have u1 : decide (0 < cmpJ (a * d) (c * b)) = true := by apply decide_eq_true; unfold cmpJ; split <;> (try split) <;> omega
    have u1' : (0 < cmpJ (a * d) (c * b)) = True := by simpa using u1
    have HLE := Lib.hid hle
    clear hle
    obtain ⟨rfl, rfl⟩ : V1 = 0 ∧ V2 = 9 := by have := HVH.out 9 (by rw [HH.out]; simp [HCE.out, firstErr, unl, HLE.out]) (by decide); simpa using this
    go_wp2
    go_ret2
    exact ⟨rfl, HB.out⟩
end Go.Proofs.YthkekjgdknnaiaaGreat
