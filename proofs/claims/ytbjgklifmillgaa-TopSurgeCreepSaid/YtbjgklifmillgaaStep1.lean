import Derived.Test.YtbjgklifmillgaaMStl
/- A step of the program. -/
namespace Go.Proofs.Ytbjgklifmillgaa
open Go.RowKit
set_option linter.unusedVariables false

set_option maxRecDepth 100000 in
theorem step_bad (y f b : List Int) (s : Int) (a a1 a2 : Option Addr) (n c n1 c1 n2 c2 : Nat) (e : Bool) (w : World) (hy : IntsR w a n y) (hf : IntsR w a1 n1 f) (hb : IntsR w a2 n2 b) (hn1 : n1 ≤ 100) (hn2 : n2 ≤ 100)
    (h0 : firstErr [stErr y f b, unl (wi s (-1000000) 1000000) 2] ≠ 0) :
    Calls Try.prog 27 #[.agg #[.slice a n c, .bool e], .agg #[.slice a1 n1 c1, .slice a2 n2 c2], .int .i64 s] w fun e' w' => e' = .returned (.tuple #[.agg #[.slice none 0 0, .slice none 0 0], .slice none 0 0, .int .i64 (firstErr [stErr y f b, unl (wi s (-1000000) 1000000) 2])]) ∧ Below w.heap.size w w' := by
  have HS := Lib.hid (fun (w' : World) (hb' : Below w.heap.size w w') => stateErr_any y f b a a1 a2 n c n1 c1 n2 c2 e w' (hy.below hb') (hf.below hb') (hb.below hb') hn1 hn2)
  have hn := hy.small
  clear hy hf hb
  generalize stErr y f b = el at HS h0
  generalize hg : wi s (-1000000) 1000000 = g at h0
  have HG := Lib.hid hg; clear hg
  generalize hE : firstErr [el, unl g 2] = E at h0
  have HE := Lib.hid hE; clear hE
  have h1' : (E != 0) = true := by simpa using h0
  clear h0
  go_enter Try.func27, Try.ntmps27
  go_wp2_with fail
  refine (HS.out _ (by (repeat' (first | (with_reducible exact Below.refl _ _) | (with_reducible assumption) | (with_reducible refine Below.drewN ?_ _) | (with_reducible refine Below.alloc ?_ ?_ _) | (with_reducible refine Below.drew ?_) | (with_reducible refine Below.setCell ?_ ?_ _) | (with_reducible refine Below.step (by assumption) ?_ ?_) | (with_reducible exact And.left (by assumption)) | go_size)))).mono ?_
  rintro e5 w5 ⟨rfl, hb5⟩
  have hz5 := hb5.size
  simp only [World.size_alloc] at hz5
  have hl2 : w.heap.size + 1 + 1 < w5.heap.size := by omega
  have p0 : w5.cell? ⟨w.heap.size + 1 + 1, 0, none⟩ = some (.slice none 0 0) := by { rw [cellB hb5 _ _ (by first | (simp; done) | (simp; omega) | omega)]; all_goals (first | assumption | go_simp) }; have p1 : w5.cell? ⟨w.heap.size + 1 + 1, 1, none⟩ = some (.slice none 0 0) := by { rw [cellB hb5 _ _ (by first | (simp; done) | (simp; omega) | omega)]; all_goals (first | assumption | go_simp) }; have f0 : w5.frozen? ⟨w.heap.size + 1 + 1, 0, none⟩ = false := by { rw [frozenB hb5 _ _ (by first | (simp; done) | (simp; omega) | omega)]; all_goals (first | assumption | go_simp) }; have f1 : w5.frozen? ⟨w.heap.size + 1 + 1, 1, none⟩ = false := by { rw [frozenB hb5 _ _ (by first | (simp; done) | (simp; omega) | omega)]; all_goals (first | assumption | go_simp) }
  go_wp2_with fail
  refine (isSized_any _ _ _ (by omega) (by omega)).mono ?_
  rintro e6 w6 ⟨rfl, rfl⟩
  rw [HG.out]
  go_wp2_with fail
  refine (unless_any _ _ _).mono ?_
  rintro e6 w6 ⟨rfl, rfl⟩
  go_wp2_with fail
  refine (first2 _ _ _ _ _ _ (by rfl) (by simp)).mono ?_
  rintro e6 w6 ⟨rfl, rfl⟩
  rw [HE.out]
  go_wp2
  refine bodyPost_ret (v := .tuple #[.agg #[.slice none 0 0, .slice none 0 0], .slice none 0 0, .int .i64 E]) (by simp [results, Try.results27, go_sem, p0, p1, hl2]) rfl ⟨rfl, by (repeat' (first | (with_reducible exact Below.refl _ _) | (with_reducible assumption) | (with_reducible refine Below.drewN ?_ _) | (with_reducible refine Below.alloc ?_ ?_ _) | (with_reducible refine Below.drew ?_) | (with_reducible refine Below.setCell ?_ ?_ _) | (with_reducible refine Below.step (by assumption) ?_ ?_) | (with_reducible exact And.left (by assumption)) | go_size))⟩

set_option maxHeartbeats 8000000 in
set_option maxRecDepth 100000 in
theorem step_main2 (y f b : List Int) (s : Int) (a a1 a2 : Option Addr) (n c n1 c1 n2 c2 : Nat) (e : Bool) (w : World) (hy : IntsR w a n y) (hf : IntsR w a1 n1 f) (hb : IntsR w a2 n2 b)
    (h0 : stErr y f b = 0) (hs : wi s (-1000000) 1000000 = true) :
    Calls Try.prog 27 #[.agg #[.slice a n c, .bool e], .agg #[.slice a1 n1 c1, .slice a2 n2 c2], .int .i64 s] w (StepPost2 y f b s e n w) := by
  have hz := stErr_zero h0
  have hlz := lineErr_zero hz.1
  rw [hy.len, hf.len, hb.len] at hz
  rw [hy.len] at hlz
  have hn10 := hlz.2.1
  obtain ⟨_, hz1, hz2, hzf, hzb⟩ := hz
  obtain rfl : n = n1 := hz1.symm
  obtain rfl : n = n2 := hz2.symm
  have HZ := Lib.hid (And.intro hlz.2.2 (And.intro hzf hzb))
  have hn0 := hlz.1
  clear hlz hzf hzb
  obtain ⟨by_, oy, rfl, hby, hcy⟩ := hy.addr hn0
  obtain ⟨bf, of, rfl, hbf, hcf⟩ := hf.addr hn0
  obtain ⟨bb, ob, rfl, hbb, hcb⟩ := hb.addr hn0
  have HCY := Lib.hid hcy
  have HCF := Lib.hid hcf
  have HCB := Lib.hid hcb
  have HL := Lib.hid (And.intro hy.len (And.intro hf.len hb.len))
  have HS := Lib.hid (fun (w' : World) (hb' : Below w.heap.size w w') => stateErr_any y f b (some ⟨by_, oy, none⟩) (some ⟨bf, of, none⟩) (some ⟨bb, ob, none⟩) n c n c1 n c2 e w' (hy.below hb') (hf.below hb') (hb.below hb') (by omega) (by omega))
  have HSS := Lib.hid hs
  have HYY := Lib.hid hy
  have hsb := wi_iff.1 hs
  rw [h0] at HS
  have HBG := Lib.hid (fun w' => begin_any (some ⟨by_, oy, none⟩) n c e w' (by omega))
  clear hy hf hb h0 hcy hcf hcb hs
  go_enter Try.func27, Try.ntmps27
  go_wp2_with fail
  refine (HS.out _ (by (repeat' (first | (with_reducible exact Below.refl _ _) | (with_reducible assumption) | (with_reducible refine Below.drewN ?_ _) | (with_reducible refine Below.alloc ?_ ?_ _) | (with_reducible refine Below.drew ?_) | (with_reducible refine Below.setCell ?_ ?_ _) | (with_reducible refine Below.step (by assumption) ?_ ?_) | (with_reducible exact And.left (by assumption)) | go_size)))).mono ?_
  rintro e5 w5 ⟨rfl, hb5⟩
  have hz5 := hb5.size
  simp only [World.size_alloc] at hz5
  have q0 : w5.cell? ⟨w.heap.size, 0, none⟩ = some (.slice (some ⟨by_, oy, none⟩) n c) := by { rw [cellB hb5 _ _ (by first | (simp; done) | (simp; omega) | omega)]; all_goals (first | assumption | go_simp) }; have q1 : w5.cell? ⟨w.heap.size, 1, none⟩ = some (.bool e) := by { rw [cellB hb5 _ _ (by first | (simp; done) | (simp; omega) | omega)]; all_goals (first | assumption | go_simp) }; have q2 : w5.cell? ⟨w.heap.size + 1, 0, none⟩ = some (.slice (some ⟨bf, of, none⟩) n c1) := by { rw [cellB hb5 _ _ (by first | (simp; done) | (simp; omega) | omega)]; all_goals (first | assumption | go_simp) }; have q3 : w5.cell? ⟨w.heap.size + 1, 1, none⟩ = some (.slice (some ⟨bb, ob, none⟩) n c2) := by { rw [cellB hb5 _ _ (by first | (simp; done) | (simp; omega) | omega)]; all_goals (first | assumption | go_simp) }; have p0 : w5.cell? ⟨w.heap.size + 1 + 1, 0, none⟩ = some (.slice none 0 0) := by { rw [cellB hb5 _ _ (by first | (simp; done) | (simp; omega) | omega)]; all_goals (first | assumption | go_simp) }; have p1 : w5.cell? ⟨w.heap.size + 1 + 1, 1, none⟩ = some (.slice none 0 0) := by { rw [cellB hb5 _ _ (by first | (simp; done) | (simp; omega) | omega)]; all_goals (first | assumption | go_simp) }; have f0 : w5.frozen? ⟨w.heap.size + 1 + 1, 0, none⟩ = false := by { rw [frozenB hb5 _ _ (by first | (simp; done) | (simp; omega) | omega)]; all_goals (first | assumption | go_simp) }; have f1 : w5.frozen? ⟨w.heap.size + 1 + 1, 1, none⟩ = false := by { rw [frozenB hb5 _ _ (by first | (simp; done) | (simp; omega) | omega)]; all_goals (first | assumption | go_simp) }; have l0 : w.heap.size < w5.heap.size := by { omega }; have l1 : w.heap.size + 1 < w5.heap.size := by { omega }; have l2 : w.heap.size + 1 + 1 < w5.heap.size := by { omega }
  have hbw5 : Below w.heap.size w w5 := by (repeat' (first | (with_reducible exact Below.refl _ _) | (with_reducible assumption) | (with_reducible refine Below.drewN ?_ _) | (with_reducible refine Below.alloc ?_ ?_ _) | (with_reducible refine Below.drew ?_) | (with_reducible refine Below.setCell ?_ ?_ _) | (with_reducible refine Below.step (by assumption) ?_ ?_) | (with_reducible exact And.left (by assumption)) | go_size))
  have HBW5 := Lib.hid hbw5
  clear HS hb5 hbw5
  go_wp2_with fail
  refine (isSized_any _ _ _ (by omega) (by omega)).mono ?_
  rintro e6 w6 ⟨rfl, rfl⟩
  rw [HSS.out]
  go_wp2_with fail
  refine (unless_any _ _ _).mono ?_
  rintro e6 w6 ⟨rfl, rfl⟩
  go_wp2_with fail
  refine (first2 _ _ _ _ _ _ (by rfl) (by simp)).mono ?_
  rintro e6 w6 ⟨rfl, rfl⟩
  rw [show firstErr [0, unl true 2] = 0 from rfl]
  go_wp2
  go_quiet (fail)
  go_wp2_with fail
  refine (HBG.out _).mono ?_
  rintro e7 w7 ⟨g1, g2, rfl, hb7, hg12, ho1, ho2⟩
  clear HBG
  have hz7 := hb7.size
  simp only [World.size_alloc, World.heap_drewN] at hz7
  have q0' : w7.cell? ⟨w.heap.size, 0, none⟩ = some (.slice (some ⟨by_, oy, none⟩) n c) := by { rw [cellB hb7 _ _ (by first | (simp; done) | (simp; omega) | omega)]; all_goals (first | assumption | go_simp) }; have q1' : w7.cell? ⟨w.heap.size, 1, none⟩ = some (.bool e) := by { rw [cellB hb7 _ _ (by first | (simp; done) | (simp; omega) | omega)]; all_goals (first | assumption | go_simp) }; have q2' : w7.cell? ⟨w.heap.size + 1, 0, none⟩ = some (.slice (some ⟨bf, of, none⟩) n c1) := by { rw [cellB hb7 _ _ (by first | (simp; done) | (simp; omega) | omega)]; all_goals (first | assumption | go_simp) }; have q3' : w7.cell? ⟨w.heap.size + 1, 1, none⟩ = some (.slice (some ⟨bb, ob, none⟩) n c2) := by { rw [cellB hb7 _ _ (by first | (simp; done) | (simp; omega) | omega)]; all_goals (first | assumption | go_simp) }; have p0' : w7.cell? ⟨w.heap.size + 1 + 1, 0, none⟩ = some (.slice none 0 0) := by { rw [cellB hb7 _ _ (by first | (simp; done) | (simp; omega) | omega)]; all_goals (first | assumption | go_simp) }; have p1' : w7.cell? ⟨w.heap.size + 1 + 1, 1, none⟩ = some (.slice none 0 0) := by { rw [cellB hb7 _ _ (by first | (simp; done) | (simp; omega) | omega)]; all_goals (first | assumption | go_simp) }; have f0' : w7.frozen? ⟨w.heap.size + 1 + 1, 0, none⟩ = false := by { rw [frozenB hb7 _ _ (by first | (simp; done) | (simp; omega) | omega)]; all_goals (first | assumption | go_simp) }; have f1' : w7.frozen? ⟨w.heap.size + 1 + 1, 1, none⟩ = false := by { rw [frozenB hb7 _ _ (by first | (simp; done) | (simp; omega) | omega)]; all_goals (first | assumption | go_simp) }; have l0' : w.heap.size < w7.heap.size := by { omega }; have l1' : w.heap.size + 1 < w7.heap.size := by { omega }; have l2' : w.heap.size + 1 + 1 < w7.heap.size := by { omega }
  have hbw7 : Below w.heap.size w w7 := by
    have := HBW5.out
    (repeat' (first | (with_reducible exact Below.refl _ _) | (with_reducible assumption) | (with_reducible refine Below.drewN ?_ _) | (with_reducible refine Below.alloc ?_ ?_ _) | (with_reducible refine Below.drew ?_) | (with_reducible refine Below.setCell ?_ ?_ _) | (with_reducible refine Below.step (by assumption) ?_ ?_) | (with_reducible exact And.left (by assumption)) | go_size))
  have HBW7 := Lib.hid hbw7
  clear q0 q1 q2 q3 p0 p1 f0 f1 l0 l1 l2 hbw7 HBW5
  have hlt1 := ho1.lt g1 rfl
  have hlt2 := ho2.lt g2 rfl
  simp only [World.size_alloc, World.heap_drewN] at hlt1 hlt2
  go_wp2
  obtain ⟨w8, hw8, x0, x1, hb78, lx, hv⟩ := two_new w7 (.slice (some ⟨g1, 0, none⟩) n n) (.slice (some ⟨g2, 0, none⟩) n n) (.int .i64 s) 67 3
  rw [← hw8]
  clear hw8
  have hz8 := hb78.size
  have q0 : w8.cell? ⟨w.heap.size, 0, none⟩ = some (.slice (some ⟨by_, oy, none⟩) n c) := by { rw [cellB hb78 _ _ (by first | (simp; done) | (simp; omega) | omega)]; all_goals (first | assumption | go_simp) }; have q1 : w8.cell? ⟨w.heap.size, 1, none⟩ = some (.bool e) := by { rw [cellB hb78 _ _ (by first | (simp; done) | (simp; omega) | omega)]; all_goals (first | assumption | go_simp) }; have q2 : w8.cell? ⟨w.heap.size + 1, 0, none⟩ = some (.slice (some ⟨bf, of, none⟩) n c1) := by { rw [cellB hb78 _ _ (by first | (simp; done) | (simp; omega) | omega)]; all_goals (first | assumption | go_simp) }; have q3 : w8.cell? ⟨w.heap.size + 1, 1, none⟩ = some (.slice (some ⟨bb, ob, none⟩) n c2) := by { rw [cellB hb78 _ _ (by first | (simp; done) | (simp; omega) | omega)]; all_goals (first | assumption | go_simp) }; have p0 : w8.cell? ⟨w.heap.size + 1 + 1, 0, none⟩ = some (.slice none 0 0) := by { rw [cellB hb78 _ _ (by first | (simp; done) | (simp; omega) | omega)]; all_goals (first | assumption | go_simp) }; have p1 : w8.cell? ⟨w.heap.size + 1 + 1, 1, none⟩ = some (.slice none 0 0) := by { rw [cellB hb78 _ _ (by first | (simp; done) | (simp; omega) | omega)]; all_goals (first | assumption | go_simp) }; have f0 : w8.frozen? ⟨w.heap.size + 1 + 1, 0, none⟩ = false := by { rw [frozenB hb78 _ _ (by first | (simp; done) | (simp; omega) | omega)]; all_goals (first | assumption | go_simp) }; have f1 : w8.frozen? ⟨w.heap.size + 1 + 1, 1, none⟩ = false := by { rw [frozenB hb78 _ _ (by first | (simp; done) | (simp; omega) | omega)]; all_goals (first | assumption | go_simp) }; have l0 : w.heap.size < w8.heap.size := by { omega }; have l1 : w.heap.size + 1 < w8.heap.size := by { omega }; have l2 : w.heap.size + 1 + 1 < w8.heap.size := by { omega }
  have ho1' := owns_mono (base' := w.heap.size + 1 + 1 + 1) (owns_below ho1 hb78 (fun k hk => (ho1.lt k hk).2)) (by simp; omega)
  have ho2' := owns_mono (base' := w.heap.size + 1 + 1 + 1) (owns_below ho2 hb78 (fun k hk => (ho2.lt k hk).2)) (by simp; omega)
  have hbw8 := HBW7.out.trans (hb78.mono (by omega))
  have hg1l : w.heap.size + 1 + 1 + 1 ≤ g1 ∧ g1 < w7.heap.size := by omega
  have hg2l : w.heap.size + 1 + 1 + 1 ≤ g2 ∧ g2 < w7.heap.size := by omega
  clear ho1 ho2 hb78 q0' q1' q2' q3' p0' p1' f0' f1' l0' l1' l2' HBW7 hb7 hlt1 hlt2 hz7
  generalize w7.heap.size = BX at *
  have HV := Lib.hid hv
  have HO1 := Lib.hid ho1'
  have HO2 := Lib.hid ho2'
  have HB8 := Lib.hid hbw8
  clear hv ho1' ho2' hbw8 hz8
  -- out.Forward[0] = source - b[0]
  obtain ⟨B0, hB0⟩ : ∃ B0, B0 = b.getD 0 0 := ⟨_, rfl⟩
  have cb0 : w8.cell? ⟨bb, ob, none⟩ = some (.int .i64 B0) := by rw [cellB HB8.out _ _ hbb, hB0]; exact HCB.out 0 hn0
  have bB0 : -1000000 ≤ B0 ∧ B0 ≤ 1000000 := by rw [hB0]; exact HZ.out.2.2 _ (getD_mem (by rw [HL.out.2.2]; exact hn0))
  have hB0' := Lib.hid hB0; clear hB0
  have lg1 : g1 < w8.heap.size := by omega
  have lg2 : g2 < w8.heap.size := by omega
  have cg1 : w8.cell? ⟨g1, 0, none⟩ = some (.int .i64 0) := by rw [HO1.out.cellAt 0 (by omega)]; exact icells_get (by simpa using hn0) |>.trans (by simp [hn0])
  have fg1 := HO1.out.frozenAt 0
  refine later_of_eq 8 (by kernel_rfl) (by kernel_rfl) ?_; simp only [List.take_succ_cons, List.take_zero, List.drop_succ_cons, List.drop_zero]; repeat go_big_quiet_step (fail)
  refine wpQuiet_nil ?_; intro w9 hb9
  have hz9 := hb9.size
  have q0' : w9.cell? ⟨w.heap.size, 0, none⟩ = some (.slice (some ⟨by_, oy, none⟩) n c) := by { rw [cellB hb9 _ _ (by first | (simp; done) | (simp; omega) | omega)]; all_goals (first | assumption | go_simp) }; have q1' : w9.cell? ⟨w.heap.size, 1, none⟩ = some (.bool e) := by { rw [cellB hb9 _ _ (by first | (simp; done) | (simp; omega) | omega)]; all_goals (first | assumption | go_simp) }; have q2' : w9.cell? ⟨w.heap.size + 1, 0, none⟩ = some (.slice (some ⟨bf, of, none⟩) n c1) := by { rw [cellB hb9 _ _ (by first | (simp; done) | (simp; omega) | omega)]; all_goals (first | assumption | go_simp) }; have q3' : w9.cell? ⟨w.heap.size + 1, 1, none⟩ = some (.slice (some ⟨bb, ob, none⟩) n c2) := by { rw [cellB hb9 _ _ (by first | (simp; done) | (simp; omega) | omega)]; all_goals (first | assumption | go_simp) }; have p0' : w9.cell? ⟨w.heap.size + 1 + 1, 0, none⟩ = some (.slice none 0 0) := by { rw [cellB hb9 _ _ (by first | (simp; done) | (simp; omega) | omega)]; all_goals (first | assumption | go_simp) }; have p1' : w9.cell? ⟨w.heap.size + 1 + 1, 1, none⟩ = some (.slice none 0 0) := by { rw [cellB hb9 _ _ (by first | (simp; done) | (simp; omega) | omega)]; all_goals (first | assumption | go_simp) }; have f0' : w9.frozen? ⟨w.heap.size + 1 + 1, 0, none⟩ = false := by { rw [frozenB hb9 _ _ (by first | (simp; done) | (simp; omega) | omega)]; all_goals (first | assumption | go_simp) }; have f1' : w9.frozen? ⟨w.heap.size + 1 + 1, 1, none⟩ = false := by { rw [frozenB hb9 _ _ (by first | (simp; done) | (simp; omega) | omega)]; all_goals (first | assumption | go_simp) }; have l0' : w.heap.size < w9.heap.size := by { omega }; have l1' : w.heap.size + 1 < w9.heap.size := by { omega }; have l2' : w.heap.size + 1 + 1 < w9.heap.size := by { omega }; have x0' : w9.cell? ⟨BX, 0, none⟩ = some (.slice (some ⟨g1, 0, none⟩) n n) := by { rw [cellB hb9 _ _ (by first | (simp; done) | (simp; omega) | omega)]; all_goals (first | assumption | go_simp) }; have x1' : w9.cell? ⟨BX, 1, none⟩ = some (.slice (some ⟨g2, 0, none⟩) n n) := by { rw [cellB hb9 _ _ (by first | (simp; done) | (simp; omega) | omega)]; all_goals (first | assumption | go_simp) }; have lx' : BX + 1 < w9.heap.size := by { omega }; have cg1' : w9.cell? ⟨g1, 0, none⟩ = some (.int .i64 0) := by { rw [cellB hb9 _ _ (by first | (simp; done) | (simp; omega) | omega)]; all_goals (first | assumption | go_simp) }; have fg1' : w9.frozen? ⟨g1, 0, none⟩ = false := by { rw [frozenB hb9 _ _ (by first | (simp; done) | (simp; omega) | omega)]; all_goals (first | assumption | go_simp) }; have lg1' : g1 < w9.heap.size := by { omega }; have lg2' : g2 < w9.heap.size := by { omega }
  have HV' := Lib.hid (owns_below HV.out hb9 (fun k hk => (HV.out.lt k hk).2))
  have HO1' := Lib.hid (owns_below HO1.out hb9 (fun k hk => (HO1.out.lt k hk).2))
  have HO2' := Lib.hid (owns_below HO2.out hb9 (fun k hk => (HO2.out.lt k hk).2))
  have HB9 := Lib.hid (HB8.out.trans (hb9.mono (by omega)))
  clear HV HO1 HO2 HB8 hb9 q0 q1 q2 q3 p0 p1 f0 f1 l0 l1 l2 x0 x1 lx cg1 fg1 lg1 lg2 cb0
  go_wp2
  have HO1a := Lib.hid (HO1'.out.stored 0 (.int .i64 (s - B0))).1
  go_loopw [14, 53] (fun v i wr => ∃ k : Nat, i = .int .i64 k ∧ k + 1 ≤ n ∧ (∃ av cv, v = .slice av (k + 1) cv ∧ Hid (wr.ownsRow (BX + 1) 3 1 (.slice av (k + 1) cv) (k + 1) (icells (volAt y f b s k))))
      ∧ Hid (wr.ownsRow (w.heap.size + 1 + 1 + 1) 3 1 (.slice (some ⟨g1, 0, none⟩) n n) n (icells (fwdAt y f b s (n - 1) k)))
      ∧ Hid (wr.ownsRow (w.heap.size + 1 + 1 + 1) 3 1 (.slice (some ⟨g2, 0, none⟩) n n) n (icells (bckAt y f b (n - 1) k)))
      ∧ Hid (Below (w.heap.size + 1 + 1 + 1) w9 wr) ∧ wr.cell? ⟨BX, 0, none⟩ = some (.slice (some ⟨g1, 0, none⟩) n n) ∧ wr.cell? ⟨BX, 1, none⟩ = some (.slice (some ⟨g2, 0, none⟩) n n) ∧ BX + 1 < wr.heap.size)
    (fun _ i _ => n - (intOf i).toNat)
  case atStart =>
    obtain ⟨m, rfl⟩ : ∃ m, n = m + 1 := ⟨n - 1, by omega⟩
    refine ⟨0, rfl, by omega, ⟨_, _, rfl, ?_⟩, ?_, ?_, ?_, ?_, ?_, ?_⟩
    · exact Lib.hid (ownsRow_setCell_below HV'.out (a := ⟨g1, 0, none⟩) (by simp; omega) _)
    · have := HO1a.out
      rw [icells_set', hB0'.out, fwd_start y f b] at this
      rw [hB0'.out]
      exact Lib.hid this
    · have := ownsRow_setCell_other HO2'.out (a := ⟨g1, 0, none⟩) (by simp [Value.ownBlock]; omega) (.int .i64 (s - B0))
      rw [bck_start] at this
      exact Lib.hid this
    · exact Lib.hid (by (repeat' (first | (with_reducible exact Below.refl _ _) | (with_reducible assumption) | (with_reducible refine Below.drewN ?_ _) | (with_reducible refine Below.alloc ?_ ?_ _) | (with_reducible refine Below.drew ?_) | (with_reducible refine Below.setCell ?_ ?_ _) | (with_reducible refine Below.step (by assumption) ?_ ?_) | (with_reducible exact And.left (by assumption)) | go_size)))
    · rw [World.cell?_setCell_other _ ⟨g1, 0, none⟩ ⟨BX, 0, none⟩ _ (by simp <;> omega)]; exact x0'
    · rw [World.cell?_setCell_other _ ⟨g1, 0, none⟩ ⟨BX, 1, none⟩ _ (by simp <;> omega)]; exact x1'
    · simp; omega
  case round =>
    obtain ⟨k, rfl, hk, ⟨av, cv, rfl, hV⟩, hO1, hO2, hBR, x0, x1, lx⟩ := hrel
    by_cases hlt : k + 1 < n
    · have hbr := hBR.out
      have hzr := hbr.size
      have q0 : wr.cell? ⟨w.heap.size, 0, none⟩ = some (.slice (some ⟨by_, oy, none⟩) n c) := by { rw [cellB hbr _ _ (by first | (simp; done) | (simp; omega) | omega)]; all_goals (first | assumption | go_simp) }; have q1 : wr.cell? ⟨w.heap.size, 1, none⟩ = some (.bool e) := by { rw [cellB hbr _ _ (by first | (simp; done) | (simp; omega) | omega)]; all_goals (first | assumption | go_simp) }; have q2 : wr.cell? ⟨w.heap.size + 1, 0, none⟩ = some (.slice (some ⟨bf, of, none⟩) n c1) := by { rw [cellB hbr _ _ (by first | (simp; done) | (simp; omega) | omega)]; all_goals (first | assumption | go_simp) }; have q3 : wr.cell? ⟨w.heap.size + 1, 1, none⟩ = some (.slice (some ⟨bb, ob, none⟩) n c2) := by { rw [cellB hbr _ _ (by first | (simp; done) | (simp; omega) | omega)]; all_goals (first | assumption | go_simp) }; have l0 : w.heap.size < wr.heap.size := by { omega }; have l1 : w.heap.size + 1 < wr.heap.size := by { omega }
      have hbwr := HB9.out.trans (hbr.mono (by omega))
      obtain ⟨Y, hY⟩ : ∃ Y, Y = y.getD k 0 := ⟨_, rfl⟩
      obtain ⟨Y1, hY1⟩ : ∃ Y1, Y1 = y.getD (k + 1) 0 := ⟨_, rfl⟩
      obtain ⟨F, hF⟩ : ∃ F, F = f.getD k 0 := ⟨_, rfl⟩
      obtain ⟨B, hB⟩ : ∃ B, B = b.getD (k + 1) 0 := ⟨_, rfl⟩
      have cy : wr.cell? ⟨by_, oy + k, none⟩ = some (.int .i64 Y) := by rw [cellB hbwr _ _ hby, hY]; exact HCY.out k (by omega)
      have cy1 : wr.cell? ⟨by_, oy + (k + 1), none⟩ = some (.int .i64 Y1) := by rw [cellB hbwr _ _ hby, hY1]; exact HCY.out (k + 1) hlt
      have cf : wr.cell? ⟨bf, of + k, none⟩ = some (.int .i64 F) := by rw [cellB hbwr _ _ hbf, hF]; exact HCF.out k (by omega)
      have cb : wr.cell? ⟨bb, ob + (k + 1), none⟩ = some (.int .i64 B) := by rw [cellB hbwr _ _ hbb, hB]; exact HCB.out (k + 1) hlt
      have by1 : 1 ≤ Y ∧ Y ≤ 20 := by rw [hY]; exact HZ.out.1 _ (getD_mem (by rw [HL.out.1]; omega))
      have by2 : 1 ≤ Y1 ∧ Y1 ≤ 20 := by rw [hY1]; exact HZ.out.1 _ (getD_mem (by rw [HL.out.1]; exact hlt))
      have bf1 : -1000000 ≤ F ∧ F ≤ 1000000 := by rw [hF]; exact HZ.out.2.1 _ (getD_mem (by rw [HL.out.2.1]; omega))
      have bb1 : -1000000 ≤ B ∧ B ≤ 1000000 := by rw [hB]; exact HZ.out.2.2 _ (getD_mem (by rw [HL.out.2.2]; exact hlt))
      have eB : Hid (sB y f b k = (F * (Y - Y1) + 2 * B * Y1).tdiv (Y + Y1)) := by unfold sB g0; rw [hY, hY1, hF, hB]; exact rfl
      have eF : Hid (sF y f b k = (B * (Y1 - Y) + 2 * F * Y).tdiv (Y + Y1)) := by unfold sF g0; rw [hY, hY1, hF, hB]; exact rfl
      have eV : Hid (sV y f b k = (2 * (F * Y + B * Y1)).tdiv (Y + Y1)) := by unfold sV g0; rw [hY, hY1, hF, hB]; exact rfl
      clear hY hY1 hF hB
      have m1 := mulb (a := F) (b := Y - Y1) 1000000 20 20000000 (by omega) (by omega) (by omega) (by omega) (by omega)
      have m2 := mulb (a := 2 * B) (b := Y1) 2000000 20 40000000 (by omega) (by omega) (by omega) (by omega) (by omega)
      have m3 := mulb (a := B) (b := Y1 - Y) 1000000 20 20000000 (by omega) (by omega) (by omega) (by omega) (by omega)
      have m4 := mulb (a := 2 * F) (b := Y) 2000000 20 40000000 (by omega) (by omega) (by omega) (by omega) (by omega)
      have m5 := mulb (a := F) (b := Y) 1000000 20 20000000 (by omega) (by omega) (by omega) (by omega) (by omega)
      have m6 := mulb (a := B) (b := Y1) 1000000 20 20000000 (by omega) (by omega) (by omega) (by omega) (by omega)
      have d1 := tdiv_bd (F * (Y - Y1) + 2 * B * Y1) (Y + Y1) 100000000 (by omega) (by omega)
      have d2 := tdiv_bd (B * (Y1 - Y) + 2 * F * Y) (Y + Y1) 100000000 (by omega) (by omega)
      have d3 := tdiv_bd (2 * (F * Y + B * Y1)) (Y + Y1) 100000000 (by omega) (by omega)
      have hyy : (Y + Y1 == 0) = false := by simp; omega
      have i0 : (0 : Int) ≤ (k : Int) := by omega
      have i1 : (k : Int) < (n : Int) := by omega
      have i2 : (k : Int) + 1 < (n : Int) := by omega
      have cg2 : wr.cell? ⟨g2, k, none⟩ = some (.int .i64 ((bckAt y f b (n - 1) k).getD k 0)) := by rw [hO2.out.cellAt k (by omega)]; exact icells_get (by rw [bck_len _ _ _ _ _ (by omega)]; omega)
      have cg1 : wr.cell? ⟨g1, k + 1, none⟩ = some (.int .i64 ((fwdAt y f b s (n - 1) k).getD (k + 1) 0)) := by rw [hO1.out.cellAt (k + 1) (by omega)]; exact icells_get (by rw [fwd_len _ _ _ _ _ _ (by omega)]; omega)
      have fg2 := hO2.out.frozenAt k
      have fg1 := hO1.out.frozenAt (k + 1)
      generalize (bckAt y f b (n - 1) k).getD k 0 = z2 at cg2
      generalize (fwdAt y f b s (n - 1) k).getD (k + 1) 0 = z1 at cg1
      go_wp2
      go_quiet (fail)
      go_wp2
      refine drew_of_eq 34 (by kernel_rfl) (by kernel_rfl) ?_; simp only [List.take_succ_cons, List.take_zero, List.drop_succ_cons, List.drop_zero]; repeat go_big_quiet_step (fail)
      refine wpQuiet_nil ?_; intro m7
      go_wp2
      refine drew_of_eq 34 (by kernel_rfl) (by kernel_rfl) ?_; simp only [List.take_succ_cons, List.take_zero, List.drop_succ_cons, List.drop_zero]; repeat go_big_quiet_step (fail)
      refine wpQuiet_nil ?_; intro m8
      go_wp2
      generalize hW : ((((wr.drewN (nq + m7)).setCell { block := g2, off := k } (Value.int IntKind.i64 ((F * (Y - Y1) + 2 * B * Y1).tdiv (Y + Y1)))).drewN m8).setCell { block := g1, off := k + 1 } (Value.int IntKind.i64 ((B * (Y1 - Y) + 2 * F * Y).tdiv (Y + Y1)))) = wz
      have ho1a := (World.ownsRow.stored (ownsRow_setCell_other hO1.out (a := ⟨g2, k, none⟩) (by simp [Value.ownBlock]; omega) (Value.int IntKind.i64 ((F * (Y - Y1) + 2 * B * Y1).tdiv (Y + Y1)))) (k + 1) (Value.int IntKind.i64 ((B * (Y1 - Y) + 2 * F * Y).tdiv (Y + Y1)))).1
      have ho2a := ownsRow_setCell_other (hO2.out.stored k (Value.int IntKind.i64 ((F * (Y - Y1) + 2 * B * Y1).tdiv (Y + Y1)))).1 (a := ⟨g1, k + 1, none⟩) (by simp [Value.ownBlock]; omega) (Value.int IntKind.i64 ((B * (Y1 - Y) + 2 * F * Y).tdiv (Y + Y1)))
      have hva := ownsRow_setCell_below (ownsRow_setCell_below hV.out (a := ⟨g2, k, none⟩) (by simp; omega) (Value.int IntKind.i64 ((F * (Y - Y1) + 2 * B * Y1).tdiv (Y + Y1)))) (a := ⟨g1, k + 1, none⟩) (by simp; omega) (Value.int IntKind.i64 ((B * (Y1 - Y) + 2 * F * Y).tdiv (Y + Y1)))
      rw [icells_set', ← eF.out, ← eB.out, fwd_set _ _ _ _ _ _ (by omega)] at ho1a
      rw [icells_set', ← eF.out, ← eB.out, bck_set _ _ _ _ _ (by omega)] at ho2a
      rw [← eF.out, ← eB.out] at hva hW
      have hsz : wz.heap.size = wr.heap.size := by rw [← hW]; simp
      have HVz := Lib.hid (owns_heap (w' := wz) hva (by rw [← hW]; rfl))
      have HO1z := Lib.hid (owns_heap (w' := wz) ho1a (by rw [← hW]; rfl))
      have HO2z := Lib.hid (owns_heap (w' := wz) ho2a (by rw [← hW]; rfl))
      have HOLD : ∀ q o, q ≠ g1 → q ≠ g2 → wz.cell? ⟨q, o, none⟩ = wr.cell? ⟨q, o, none⟩ := by
        intro q o h1 h2
        rw [← hW, World.cell?_setCell_other _ ⟨g1, k + 1, none⟩ ⟨q, o, none⟩ _ (by simp <;> omega), World.cell?_drewN, World.cell?_setCell_other _ ⟨g2, k, none⟩ ⟨q, o, none⟩ _ (by simp <;> omega), World.cell?_drewN]
      have x0z : wz.cell? ⟨BX, 0, none⟩ = some (.slice (some ⟨g1, 0, none⟩) n n) := by rw [HOLD _ _ (by omega) (by omega)]; exact x0
      have x1z : wz.cell? ⟨BX, 1, none⟩ = some (.slice (some ⟨g2, 0, none⟩) n n) := by rw [HOLD _ _ (by omega) (by omega)]; exact x1
      have czy : wz.cell? ⟨by_, oy + k, none⟩ = some (.int .i64 Y) := by rw [HOLD _ _ (by omega) (by omega)]; exact cy
      have czy1 : wz.cell? ⟨by_, oy + (k + 1), none⟩ = some (.int .i64 Y1) := by rw [HOLD _ _ (by omega) (by omega)]; exact cy1
      have czf : wz.cell? ⟨bf, of + k, none⟩ = some (.int .i64 F) := by rw [HOLD _ _ (by omega) (by omega)]; exact cf
      have czb : wz.cell? ⟨bb, ob + (k + 1), none⟩ = some (.int .i64 B) := by rw [HOLD _ _ (by omega) (by omega)]; exact cb
      have hbrz : Below (w.heap.size + 1 + 1 + 1) w9 wz := by
        rw [← hW]
        have := hBR.out
        (repeat' (first | (with_reducible exact Below.refl _ _) | (with_reducible assumption) | (with_reducible refine Below.drewN ?_ _) | (with_reducible refine Below.alloc ?_ ?_ _) | (with_reducible refine Below.drew ?_) | (with_reducible refine Below.setCell ?_ ?_ _) | (with_reducible refine Below.step (by assumption) ?_ ?_) | (with_reducible exact And.left (by assumption)) | go_size))
      have HBZ := Lib.hid hbrz
      have lz : BX + 1 < wz.heap.size := by omega
      have lz0 : BX < wz.heap.size := by omega
      have ly : by_ < BX + 1 := by omega
      have lf : bf < BX + 1 := by omega
      have lb : bb < BX + 1 := by omega
      clear hW HOLD ho1a ho2a hva hbrz m1 m2 m3 m4 cg1 cg2 fg1 fg2 cy cy1 cf cb q0 q1 q2 q3 l0 l1 x0 x1 lx hsz d1 d2
      refine wp_region_laterB (B := BX + 1) [0, 1, 2, 3, 4, 5, 6, 7, 8, 9, 10, 11, 12, 13, 14, 15, 16, 17, 18, 19, 20, 21, 22, 23, 24] [25, 26, 27] (by kernel_rfl) (by kernel_rfl) ?_; simp only [List.filterMap_cons, List.filterMap_nil, List.getElem?_cons_zero, List.getElem?_cons_succ]; repeat (show wpQuiet _ _ _ _ (_ :: _) _; go_big_quiet_step (fail))
      refine wpQuiet_nil ?_
      refine wpTail_cons ?_
      go_wp2_with (fail)
      refine tailL_mk (by (repeat' (first | (with_reducible exact Below.refl _ _) | (with_reducible assumption) | (with_reducible refine Below.drewN ?_ _) | (with_reducible refine Below.alloc ?_ ?_ _) | (with_reducible refine Below.drew ?_) | (with_reducible refine Below.setCell ?_ ?_ _) | (with_reducible refine Below.step (by assumption) ?_ ?_) | (with_reducible exact And.left (by assumption)) | go_size))) ?_
      refine wpTail_cons ?_
      go_wp2_with (at_builtin; refine wpList_append_sl _ rfl _ _ 31 rfl (BX + 1) 3 _ 1 8 Try.underlying31 infoInt rfl (by omega) (.slice av (k + 1) cv) (k + 1) _ rfl (HVz.out.alloc _).drew _ 1 1 [.int .i64 ((2 * (F * Y + B * Y1)).tdiv (Y + Y1))] rfl (SlR.lit _ _ _ _ _ 1 1 (by rfl) (by simp) rfl (by omega)) (by simp [Value.oneCell']) (by omega) (by omega) (by simp; omega) ?_)
      intro v2 w11 hown11 _ hb11
      obtain ⟨av2, cv2, rfl, _, _⟩ := owns_slice hown11
      have HOW11 := Lib.hid hown11
      have HB11 := Lib.hid hb11
      have hz11 : wz.heap.size + 1 ≤ w11.heap.size := by { have := hb11.size; simp at this; omega }
      have hb11' : Below (BX + 1) wz w11 := Below.trans (b := _) (by (repeat' (first | (with_reducible exact Below.refl _ _) | (with_reducible assumption) | (with_reducible refine Below.drewN ?_ _) | (with_reducible refine Below.alloc ?_ ?_ _) | (with_reducible refine Below.drew ?_) | (with_reducible refine Below.setCell ?_ ?_ _) | (with_reducible refine Below.step (by assumption) ?_ ?_) | (with_reducible exact And.left (by assumption)) | go_size))) hb11
      have HB11' := Lib.hid hb11'
      clear hown11 hb11
      go_wp2
      refine tailL_mk HB11'.out ?_
      refine wpTail_cons ?_
      go_wp2
      refine tailL_mk HB11'.out ?_
      refine wpTail_nil ?_
      go_wp2
      go_roundw
      case rel =>
        have hb11 := HB11.out
        have hov := HOW11.out
        have hb' := HB11'.out
        rw [← eV.out] at hov
        refine ⟨k + 1, by go_num, by omega, ⟨_, _, rfl, ?_⟩, ?_, ?_, ?_, ?_, ?_, by omega⟩
        · refine Lib.hid ?_
          rw [← vol_snoc, icells_append]
          exact hov
        · exact Lib.hid (owns_below HO1z.out hb' (fun q hq => by simp [Value.ownBlock] at hq; omega))
        · exact Lib.hid (owns_below HO2z.out hb' (fun q hq => by simp [Value.ownBlock] at hq; omega))
        · exact Lib.hid (Below.trans HBZ.out (hb'.mono (by omega)))
        · rw [cellB hb' _ _ (by omega)]
          exact x0z
        · rw [cellB hb' _ _ (by omega)]
          exact x1z
      case measure => simp [intOf]; omega
    · have hbr := hBR.out
      have hzr := hbr.size
      have q0 : wr.cell? ⟨w.heap.size, 0, none⟩ = some (.slice (some ⟨by_, oy, none⟩) n c) := by { rw [cellB hbr _ _ (by first | (simp; done) | (simp; omega) | omega)]; all_goals (first | assumption | go_simp) }; have q1 : wr.cell? ⟨w.heap.size, 1, none⟩ = some (.bool e) := by { rw [cellB hbr _ _ (by first | (simp; done) | (simp; omega) | omega)]; all_goals (first | assumption | go_simp) }; have q2 : wr.cell? ⟨w.heap.size + 1, 0, none⟩ = some (.slice (some ⟨bf, of, none⟩) n c1) := by { rw [cellB hbr _ _ (by first | (simp; done) | (simp; omega) | omega)]; all_goals (first | assumption | go_simp) }; have q3 : wr.cell? ⟨w.heap.size + 1, 1, none⟩ = some (.slice (some ⟨bb, ob, none⟩) n c2) := by { rw [cellB hbr _ _ (by first | (simp; done) | (simp; omega) | omega)]; all_goals (first | assumption | go_simp) }; have p0 : wr.cell? ⟨w.heap.size + 1 + 1, 0, none⟩ = some (.slice none 0 0) := by { rw [cellB hbr _ _ (by first | (simp; done) | (simp; omega) | omega)]; all_goals (first | assumption | go_simp) }; have p1 : wr.cell? ⟨w.heap.size + 1 + 1, 1, none⟩ = some (.slice none 0 0) := by { rw [cellB hbr _ _ (by first | (simp; done) | (simp; omega) | omega)]; all_goals (first | assumption | go_simp) }; have f0 : wr.frozen? ⟨w.heap.size + 1 + 1, 0, none⟩ = false := by { rw [frozenB hbr _ _ (by first | (simp; done) | (simp; omega) | omega)]; all_goals (first | assumption | go_simp) }; have f1 : wr.frozen? ⟨w.heap.size + 1 + 1, 1, none⟩ = false := by { rw [frozenB hbr _ _ (by first | (simp; done) | (simp; omega) | omega)]; all_goals (first | assumption | go_simp) }; have l0 : w.heap.size < wr.heap.size := by { omega }; have l1 : w.heap.size + 1 < wr.heap.size := by { omega }; have l2 : w.heap.size + 1 + 1 < wr.heap.size := by { omega }
      have hbwr := HB9.out.trans (hbr.mono (by omega))
      have HBW := Lib.hid hbwr
      obtain ⟨F, hF⟩ : ∃ F, F = f.getD k 0 := ⟨_, rfl⟩
      have cf : wr.cell? ⟨bf, of + k, none⟩ = some (.int .i64 F) := by rw [cellB hbwr _ _ hbf, hF]; exact HCF.out k (by omega)
      have bf1 : -1000000 ≤ F ∧ F ≤ 1000000 := by rw [hF]; exact HZ.out.2.1 _ (getD_mem (by rw [HL.out.2.1]; omega))
      have hF' := Lib.hid hF; clear hF
      have cg2 : wr.cell? ⟨g2, k, none⟩ = some (.int .i64 ((bckAt y f b (n - 1) k).getD k 0)) := by rw [hO2.out.cellAt k (by omega)]; exact icells_get (by rw [bck_len _ _ _ _ _ (by omega)]; omega)
      have fg2 := hO2.out.frozenAt k
      generalize (bckAt y f b (n - 1) k).getD k 0 = z2 at cg2
      have hkn : (n : Int) - 1 = (k : Int) := by omega
      have i0 : (0 : Int) ≤ (k : Int) := by omega
      have i1 : (k : Int) < (n : Int) := by omega
      rw [hkn]
      clear q0' q1' q2' q3' p0' p1' f0' f1' l0' l1' l2' x0' x1' lx' cg1' fg1' lg1' lg2' hkn
      go_wp2
      refine drew_of_eq 8 (by kernel_rfl) (by kernel_rfl) ?_; simp only [List.take_succ_cons, List.take_zero, List.drop_succ_cons, List.drop_zero]; repeat go_big_quiet_step (fail)
      refine wpQuiet_nil ?_; intro m7
      have hy1 : y.length = k + 1 := by rw [HL.out.1]; omega
      have ho1a := ownsRow_setCell_other (owns_drewN hO1.out m7) (a := ⟨g2, k, none⟩) (by simp [Value.ownBlock]; omega) (.int .i64 F)
      have ho2a := ((owns_drewN hO2.out m7).stored k (.int .i64 F)).1
      have hva := ownsRow_setCell_below (owns_drewN hV.out m7) (a := ⟨g2, k, none⟩) (by simp; omega) (.int .i64 F)
      have hba : Below (w.heap.size + 1 + 1 + 1) wr ((wr.drewN m7).setCell ⟨g2, k, none⟩ (.int .i64 F)) := by (repeat' (first | (with_reducible exact Below.refl _ _) | (with_reducible assumption) | (with_reducible refine Below.drewN ?_ _) | (with_reducible refine Below.alloc ?_ ?_ _) | (with_reducible refine Below.drew ?_) | (with_reducible refine Below.setCell ?_ ?_ _) | (with_reducible refine Below.step (by assumption) ?_ ?_) | (with_reducible exact And.left (by assumption)) | go_size))
      have hnk : n - 1 = k := by omega
      rw [hnk, fin_F hy1] at ho1a
      rw [hnk, icells_set'] at ho2a
      have lx0 : BX < wr.heap.size := by omega
      cases e
      · rw [fin_B false F hy1 hF'.out] at ho2a
        have hX : (if false then 0 else 2 * g0 f k) = 2 * F := by rw [hF'.out]; rfl
        have HO1z := Lib.hid ho1a
        have HO2z := Lib.hid ho2a
        have HVz := Lib.hid hva
        have HBz := Lib.hid hba
        have HX := Lib.hid hX
        clear ho1a ho2a hva hba hX
        go_wp2_with (fail)
        generalize hwz : (wr.drewN m7).setCell { block := g2, off := k } (Value.int IntKind.i64 F) = wz at *
        have hsz : wz.heap.size = wr.heap.size := by rw [← hwz]; simp
        have x0z : wz.cell? ⟨BX, 0, none⟩ = some (.slice (some ⟨g1, 0, none⟩) n n) := by
          rw [← hwz]
          repeat (first | rw [World.cell?_drewN] | rw [World.cell?_setCell_other _ ⟨g2, k, none⟩ ⟨BX, 0, none⟩ _ (by simp <;> omega)])
          exact x0
        have x1z : wz.cell? ⟨BX, 1, none⟩ = some (.slice (some ⟨g2, 0, none⟩) n n) := by
          rw [← hwz]
          repeat (first | rw [World.cell?_drewN] | rw [World.cell?_setCell_other _ ⟨g2, k, none⟩ ⟨BX, 1, none⟩ _ (by simp <;> omega)])
          exact x1
        clear hwz
        have hbz := HBz.out
        have q0 : wz.cell? ⟨w.heap.size, 0, none⟩ = some (.slice (some ⟨by_, oy, none⟩) n c) := by { rw [cellB hbz _ _ (by first | (simp; done) | (simp; omega) | omega)]; all_goals (first | assumption | go_simp) }; have q1 : wz.cell? ⟨w.heap.size, 1, none⟩ = some (.bool false) := by { rw [cellB hbz _ _ (by first | (simp; done) | (simp; omega) | omega)]; all_goals (first | assumption | go_simp) }; have q2 : wz.cell? ⟨w.heap.size + 1, 0, none⟩ = some (.slice (some ⟨bf, of, none⟩) n c1) := by { rw [cellB hbz _ _ (by first | (simp; done) | (simp; omega) | omega)]; all_goals (first | assumption | go_simp) }; have q3 : wz.cell? ⟨w.heap.size + 1, 1, none⟩ = some (.slice (some ⟨bb, ob, none⟩) n c2) := by { rw [cellB hbz _ _ (by first | (simp; done) | (simp; omega) | omega)]; all_goals (first | assumption | go_simp) }; have p0' : wz.cell? ⟨w.heap.size + 1 + 1, 0, none⟩ = some (.slice none 0 0) := by { rw [cellB hbz _ _ (by first | (simp; done) | (simp; omega) | omega)]; all_goals (first | assumption | go_simp) }; have p1' : wz.cell? ⟨w.heap.size + 1 + 1, 1, none⟩ = some (.slice none 0 0) := by { rw [cellB hbz _ _ (by first | (simp; done) | (simp; omega) | omega)]; all_goals (first | assumption | go_simp) }; have f0' : wz.frozen? ⟨w.heap.size + 1 + 1, 0, none⟩ = false := by { rw [frozenB hbz _ _ (by first | (simp; done) | (simp; omega) | omega)]; all_goals (first | assumption | go_simp) }; have f1' : wz.frozen? ⟨w.heap.size + 1 + 1, 1, none⟩ = false := by { rw [frozenB hbz _ _ (by first | (simp; done) | (simp; omega) | omega)]; all_goals (first | assumption | go_simp) }
        have hbwz := HBW.out.trans (hbz.mono (by omega))
        refine (stateErr_any y (outF y f b s) (outB y f b false) (some ⟨by_, oy, none⟩) (some ⟨g1, 0, none⟩) (some ⟨g2, 0, none⟩) n c n n n n false wz (HYY.out.below hbwz) (SlR.of_owns HO1z.out) (SlR.of_owns HO2z.out) (by omega) (by omega)).mono ?_
        rintro e8 w12 ⟨rfl, hb12⟩
        have hz12 := hb12.size
        have p0 : w12.cell? ⟨w.heap.size + 1 + 1, 0, none⟩ = some (.slice none 0 0) := by { rw [cellB hb12 _ _ (by first | (simp; done) | (simp; omega) | omega)]; all_goals (first | assumption | go_simp) }; have p1 : w12.cell? ⟨w.heap.size + 1 + 1, 1, none⟩ = some (.slice none 0 0) := by { rw [cellB hb12 _ _ (by first | (simp; done) | (simp; omega) | omega)]; all_goals (first | assumption | go_simp) }; have f0 : w12.frozen? ⟨w.heap.size + 1 + 1, 0, none⟩ = false := by { rw [frozenB hb12 _ _ (by first | (simp; done) | (simp; omega) | omega)]; all_goals (first | assumption | go_simp) }; have f1 : w12.frozen? ⟨w.heap.size + 1 + 1, 1, none⟩ = false := by { rw [frozenB hb12 _ _ (by first | (simp; done) | (simp; omega) | omega)]; all_goals (first | assumption | go_simp) }; have x0' : w12.cell? ⟨BX, 0, none⟩ = some (.slice (some ⟨g1, 0, none⟩) n n) := by { rw [cellB hb12 _ _ (by first | (simp; done) | (simp; omega) | omega)]; all_goals (first | assumption | go_simp) }; have x1' : w12.cell? ⟨BX, 1, none⟩ = some (.slice (some ⟨g2, 0, none⟩) n n) := by { rw [cellB hb12 _ _ (by first | (simp; done) | (simp; omega) | omega)]; all_goals (first | assumption | go_simp) }; have lx' : BX + 1 < w12.heap.size := by { omega }; have l2' : w.heap.size + 1 + 1 < w12.heap.size := by { omega }; have l3' : BX < w12.heap.size := by { omega }
        have HO1y := Lib.hid (owns_below HO1z.out hb12 (fun k hk => (HO1z.out.lt k hk).2))
        have HO2y := Lib.hid (owns_below HO2z.out hb12 (fun k hk => (HO2z.out.lt k hk).2))
        have HVy := Lib.hid (owns_below HVz.out hb12 (fun k hk => (HVz.out.lt k hk).2))
        have HBY := Lib.hid (Below.trans hbwz (hb12.mono (by have := hbwz.size; omega)))
        have hBXw : w.heap.size + 1 + 1 + 1 ≤ BX := by omega
        clear hb12 hbwz hbz q0 q1 q2 q3 p0' p1' f0' f1' HO1z HO2z HVz HBz hBR hO1 hO2 hV
        by_cases hE : stErr y (outF y f b s) (outB y f b false) = 0
        · have HE := Lib.hid hE
          rw [hE]
          clear hE
          go_wp2
          obtain ⟨b0, hb0⟩ : ∃ b0, b0 = w.heap.size + 1 + 1 := ⟨_, rfl⟩
          have hBXn : OkB BX (BX + 1) b0 := ⟨by omega, by omega⟩
          have Hb0 := Lib.hid hb0
          clear hb0
          refine wp_region_laterX (B := BX + 1) (b0 :=  b0) [0, 1, 2] [3, 4, 5, 6, 7] (by kernel_rfl) (by kernel_rfl) ?_; simp only [List.filterMap_cons, List.filterMap_nil, List.getElem?_cons_zero, List.getElem?_cons_succ]; repeat (show wpQuiet _ _ _ _ (_ :: _) _; go_big_quiet_step (fail))
          refine wpQuiet_nil ?_
          obtain rfl := Hb0.out
          refine wpTail_cons ?_
          go_wp2_with (fail)
          refine tailX_mk (.of_below (by (repeat' (first | (with_reducible exact Below.refl _ _) | (with_reducible assumption) | (with_reducible refine Below.drewN ?_ _) | (with_reducible refine Below.alloc ?_ ?_ _) | (with_reducible refine Below.drew ?_) | (with_reducible refine Below.setCell ?_ ?_ _) | (with_reducible refine Below.step (by assumption) ?_ ?_) | (with_reducible exact And.left (by assumption)) | go_size)))) ?_
          refine wpTail_cons ?_
          go_wp2_with (at_builtin; refine wpList_append_sl _ rfl _ _ 31 rfl (BX + 1) 3 _ 1 8 Try.underlying31 infoInt rfl (by omega) (.slice av (k + 1) cv) (k + 1) _ rfl (HVy.out.drew.alloc _) _ 1 1 [.int .i64 (2 * F)] rfl (SlR.lit _ _ _ _ _ 1 1 (by rfl) (by simp) rfl (by omega)) (by simp [Value.oneCell']) (by omega) (by omega) (by simp; omega) ?_)
          intro v2 w11 hown11 _ hb11
          obtain ⟨av2, cv2, rfl, _, _⟩ := owns_slice hown11
          have hov : w11.ownsRow (BX + 1) 3 1 (.slice av2 (k + 1 + 1) cv2) (k + 1 + 1) (icells (outV y f b s false)) := by
            rw [← fin_V (y := y) (f := f) (b := b) (s := s) (k := k) false (2 * F) (by rw [HL.out.1]; omega) HX.out.symm, icells_append]; exact hown11
          have hb11' : Below (BX + 1) w12 w11 := Below.trans (b := _) (by (repeat' (first | (with_reducible exact Below.refl _ _) | (with_reducible assumption) | (with_reducible refine Below.drewN ?_ _) | (with_reducible refine Below.alloc ?_ ?_ _) | (with_reducible refine Below.drew ?_) | (with_reducible refine Below.setCell ?_ ?_ _) | (with_reducible refine Below.step (by assumption) ?_ ?_) | (with_reducible exact And.left (by assumption)) | go_size))) hb11
          have HOV := Lib.hid hov
          have HB11 := Lib.hid hb11'
          have hz11 := hb11'.size
          clear hown11 hb11 hov
          have p0' : w11.cell? ⟨w.heap.size + 1 + 1, 0, none⟩ = some (.slice none 0 0) := by { rw [cellB hb11' _ _ (by first | (simp; done) | (simp; omega) | omega)]; all_goals (first | assumption | go_simp) }; have p1' : w11.cell? ⟨w.heap.size + 1 + 1, 1, none⟩ = some (.slice none 0 0) := by { rw [cellB hb11' _ _ (by first | (simp; done) | (simp; omega) | omega)]; all_goals (first | assumption | go_simp) }; have f0' : w11.frozen? ⟨w.heap.size + 1 + 1, 0, none⟩ = false := by { rw [frozenB hb11' _ _ (by first | (simp; done) | (simp; omega) | omega)]; all_goals (first | assumption | go_simp) }; have f1' : w11.frozen? ⟨w.heap.size + 1 + 1, 1, none⟩ = false := by { rw [frozenB hb11' _ _ (by first | (simp; done) | (simp; omega) | omega)]; all_goals (first | assumption | go_simp) }; have l2'' : w.heap.size + 1 + 1 < w11.heap.size := by { omega }
          clear hb11'
          go_wp2_with (fail)
          refine tailX_mk (.of_below HB11.out) ?_
          refine wpTail_cons ?_
          go_wp2_with (fail)
          refine tailX_mk (.set (.set (.of_below HB11.out) _) _) ?_
          refine wpTail_cons ?_
          go_wp2_with (fail)
          refine tailX_mk (.set (.set (.of_below HB11.out) _) _) ?_
          refine wpTail_cons ?_
          go_wp2_with (fail)
          refine tailX_mk (.set (.set (.of_below HB11.out) _) _) ?_
          refine wpTail_nil ?_
          go_wp2
          refine bodyPost_ret (v := .tuple #[.agg #[.slice (some ⟨g1, 0, none⟩) n n, .slice (some ⟨g2, 0, none⟩) n n], .slice av2 (k + 1 + 1) cv2, .int .i64 0]) (by simp [results, Try.results27, go_sem, p0', p1']) rfl ⟨?_, .inr ⟨HE.out, g1, g2, av2, cv2, ?_, ?_, ?_, ?_⟩⟩
          · have := HBY.out
            have := HB11.out
            have h3 := Below.trans HBY.out (HB11.out.mono (by omega))
            (repeat' (first | (with_reducible exact Below.refl _ _) | (with_reducible assumption) | (with_reducible refine Below.drewN ?_ _) | (with_reducible refine Below.alloc ?_ ?_ _) | (with_reducible refine Below.drew ?_) | (with_reducible refine Below.setCell ?_ ?_ _) | (with_reducible refine Below.step (by assumption) ?_ ?_) | (with_reducible exact And.left (by assumption)) | go_size))
          · rw [show n = k + 1 by omega]
          · refine owns_mono (base := w.heap.size + 1 + 1 + 1) (ownsRow_setCell_other (ownsRow_setCell_other (owns_below HO1y.out HB11.out (fun q hq => ?_)) (a := ⟨w.heap.size + 1 + 1, 0, none⟩) ?_ _) (a := ⟨w.heap.size + 1 + 1, 1, none⟩) ?_ _) ?_ <;> (try simp [Value.ownBlock] at *) <;> omega
          · refine owns_mono (base := w.heap.size + 1 + 1 + 1) (ownsRow_setCell_other (ownsRow_setCell_other (owns_below HO2y.out HB11.out (fun q hq => ?_)) (a := ⟨w.heap.size + 1 + 1, 0, none⟩) ?_ _) (a := ⟨w.heap.size + 1 + 1, 1, none⟩) ?_ _) ?_ <;> (try simp [Value.ownBlock] at *) <;> omega
          · rw [show n + 1 = k + 1 + 1 by omega]
            exact owns_mono (base := BX + 1) (ownsRow_setCell_below (ownsRow_setCell_below HOV.out (a := ⟨w.heap.size + 1 + 1, 0, none⟩) (by simp; omega) _) (a := ⟨w.heap.size + 1 + 1, 1, none⟩) (by simp; omega) _) (by omega)
        · have HE := Lib.hid hE
          have hE' : (stErr y (outF y f b s) (outB y f b false) != 0) = true := by simpa using hE
          generalize hEE : stErr y (outF y f b s) (outB y f b false) = EE at hE'
          clear hE hEE
          go_wp2
          refine bodyPost_ret (v := .tuple #[.agg #[.slice none 0 0, .slice none 0 0], .slice none 0 0, .int .i64 22]) (by simp [results, Try.results27, go_sem, p0, p1]) rfl ⟨?_, .inl ⟨HE.out, rfl⟩⟩
          have := HBY.out
          (repeat' (first | (with_reducible exact Below.refl _ _) | (with_reducible assumption) | (with_reducible refine Below.drewN ?_ _) | (with_reducible refine Below.alloc ?_ ?_ _) | (with_reducible refine Below.drew ?_) | (with_reducible refine Below.setCell ?_ ?_ _) | (with_reducible refine Below.step (by assumption) ?_ ?_) | (with_reducible exact And.left (by assumption)) | go_size))
      · have ho1b := ownsRow_setCell_other ho1a (a := ⟨g2, k, none⟩) (by simp [Value.ownBlock]; omega) (.int .i64 (-F))
        have ho2b := (World.ownsRow.stored ho2a k (.int .i64 (-F))).1
        have hvb := ownsRow_setCell_below hva (a := ⟨g2, k, none⟩) (by simp; omega) (.int .i64 (-F))
        rw [icells_set', set_twice, fin_B true (-F) hy1 (by rw [hF'.out]; rfl)] at ho2b
        have hX : (if true then 0 else 2 * g0 f k) = (0 : Int) := rfl
        go_wp2_with (fail)
        refine drew_of_eq 9 (by kernel_rfl) (by kernel_rfl) ?_; simp only [List.take_succ_cons, List.take_zero, List.drop_succ_cons, List.drop_zero]; repeat go_big_quiet_step (fail)
        refine wpQuiet_nil ?_; intro m8
        go_wp2_with (fail)
        have hbb' : Below (w.heap.size + 1 + 1 + 1) wr ((((wr.drewN m7).setCell { block := g2, off := k } (Value.int IntKind.i64 F)).drewN m8).setCell { block := g2, off := k } (Value.int IntKind.i64 (-F))) := by (repeat' (first | (with_reducible exact Below.refl _ _) | (with_reducible assumption) | (with_reducible refine Below.drewN ?_ _) | (with_reducible refine Below.alloc ?_ ?_ _) | (with_reducible refine Below.drew ?_) | (with_reducible refine Below.setCell ?_ ?_ _) | (with_reducible refine Below.step (by assumption) ?_ ?_) | (with_reducible exact And.left (by assumption)) | go_size))
        have HO1z := Lib.hid (owns_heap (w' := (((wr.drewN m7).setCell { block := g2, off := k } (Value.int IntKind.i64 F)).drewN m8).setCell { block := g2, off := k } (Value.int IntKind.i64 (-F))) ho1b rfl)
        have HO2z := Lib.hid (owns_heap (w' := (((wr.drewN m7).setCell { block := g2, off := k } (Value.int IntKind.i64 F)).drewN m8).setCell { block := g2, off := k } (Value.int IntKind.i64 (-F))) ho2b rfl)
        have HVz := Lib.hid (owns_heap (w' := (((wr.drewN m7).setCell { block := g2, off := k } (Value.int IntKind.i64 F)).drewN m8).setCell { block := g2, off := k } (Value.int IntKind.i64 (-F))) hvb rfl)
        have HBz := Lib.hid hbb'
        have HX := Lib.hid hX
        clear ho1a ho2a hva hba hX ho1b ho2b hvb hbb'
        generalize hwz : ((((wr.drewN m7).setCell { block := g2, off := k } (Value.int IntKind.i64 F)).drewN m8).setCell { block := g2, off := k } (Value.int IntKind.i64 (-F))) = wz at *
        have hsz : wz.heap.size = wr.heap.size := by rw [← hwz]; simp
        have x0z : wz.cell? ⟨BX, 0, none⟩ = some (.slice (some ⟨g1, 0, none⟩) n n) := by
          rw [← hwz]
          repeat (first | rw [World.cell?_drewN] | rw [World.cell?_setCell_other _ ⟨g2, k, none⟩ ⟨BX, 0, none⟩ _ (by simp <;> omega)])
          exact x0
        have x1z : wz.cell? ⟨BX, 1, none⟩ = some (.slice (some ⟨g2, 0, none⟩) n n) := by
          rw [← hwz]
          repeat (first | rw [World.cell?_drewN] | rw [World.cell?_setCell_other _ ⟨g2, k, none⟩ ⟨BX, 1, none⟩ _ (by simp <;> omega)])
          exact x1
        clear hwz
        have hbz := HBz.out
        have q0 : wz.cell? ⟨w.heap.size, 0, none⟩ = some (.slice (some ⟨by_, oy, none⟩) n c) := by { rw [cellB hbz _ _ (by first | (simp; done) | (simp; omega) | omega)]; all_goals (first | assumption | go_simp) }; have q1 : wz.cell? ⟨w.heap.size, 1, none⟩ = some (.bool true) := by { rw [cellB hbz _ _ (by first | (simp; done) | (simp; omega) | omega)]; all_goals (first | assumption | go_simp) }; have q2 : wz.cell? ⟨w.heap.size + 1, 0, none⟩ = some (.slice (some ⟨bf, of, none⟩) n c1) := by { rw [cellB hbz _ _ (by first | (simp; done) | (simp; omega) | omega)]; all_goals (first | assumption | go_simp) }; have q3 : wz.cell? ⟨w.heap.size + 1, 1, none⟩ = some (.slice (some ⟨bb, ob, none⟩) n c2) := by { rw [cellB hbz _ _ (by first | (simp; done) | (simp; omega) | omega)]; all_goals (first | assumption | go_simp) }; have p0' : wz.cell? ⟨w.heap.size + 1 + 1, 0, none⟩ = some (.slice none 0 0) := by { rw [cellB hbz _ _ (by first | (simp; done) | (simp; omega) | omega)]; all_goals (first | assumption | go_simp) }; have p1' : wz.cell? ⟨w.heap.size + 1 + 1, 1, none⟩ = some (.slice none 0 0) := by { rw [cellB hbz _ _ (by first | (simp; done) | (simp; omega) | omega)]; all_goals (first | assumption | go_simp) }; have f0' : wz.frozen? ⟨w.heap.size + 1 + 1, 0, none⟩ = false := by { rw [frozenB hbz _ _ (by first | (simp; done) | (simp; omega) | omega)]; all_goals (first | assumption | go_simp) }; have f1' : wz.frozen? ⟨w.heap.size + 1 + 1, 1, none⟩ = false := by { rw [frozenB hbz _ _ (by first | (simp; done) | (simp; omega) | omega)]; all_goals (first | assumption | go_simp) }
        have hbwz := HBW.out.trans (hbz.mono (by omega))
        refine (stateErr_any y (outF y f b s) (outB y f b true) (some ⟨by_, oy, none⟩) (some ⟨g1, 0, none⟩) (some ⟨g2, 0, none⟩) n c n n n n true wz (HYY.out.below hbwz) (SlR.of_owns HO1z.out) (SlR.of_owns HO2z.out) (by omega) (by omega)).mono ?_
        rintro e8 w12 ⟨rfl, hb12⟩
        have hz12 := hb12.size
        have p0 : w12.cell? ⟨w.heap.size + 1 + 1, 0, none⟩ = some (.slice none 0 0) := by { rw [cellB hb12 _ _ (by first | (simp; done) | (simp; omega) | omega)]; all_goals (first | assumption | go_simp) }; have p1 : w12.cell? ⟨w.heap.size + 1 + 1, 1, none⟩ = some (.slice none 0 0) := by { rw [cellB hb12 _ _ (by first | (simp; done) | (simp; omega) | omega)]; all_goals (first | assumption | go_simp) }; have f0 : w12.frozen? ⟨w.heap.size + 1 + 1, 0, none⟩ = false := by { rw [frozenB hb12 _ _ (by first | (simp; done) | (simp; omega) | omega)]; all_goals (first | assumption | go_simp) }; have f1 : w12.frozen? ⟨w.heap.size + 1 + 1, 1, none⟩ = false := by { rw [frozenB hb12 _ _ (by first | (simp; done) | (simp; omega) | omega)]; all_goals (first | assumption | go_simp) }; have x0' : w12.cell? ⟨BX, 0, none⟩ = some (.slice (some ⟨g1, 0, none⟩) n n) := by { rw [cellB hb12 _ _ (by first | (simp; done) | (simp; omega) | omega)]; all_goals (first | assumption | go_simp) }; have x1' : w12.cell? ⟨BX, 1, none⟩ = some (.slice (some ⟨g2, 0, none⟩) n n) := by { rw [cellB hb12 _ _ (by first | (simp; done) | (simp; omega) | omega)]; all_goals (first | assumption | go_simp) }; have lx' : BX + 1 < w12.heap.size := by { omega }; have l2' : w.heap.size + 1 + 1 < w12.heap.size := by { omega }; have l3' : BX < w12.heap.size := by { omega }
        have HO1y := Lib.hid (owns_below HO1z.out hb12 (fun k hk => (HO1z.out.lt k hk).2))
        have HO2y := Lib.hid (owns_below HO2z.out hb12 (fun k hk => (HO2z.out.lt k hk).2))
        have HVy := Lib.hid (owns_below HVz.out hb12 (fun k hk => (HVz.out.lt k hk).2))
        have HBY := Lib.hid (Below.trans hbwz (hb12.mono (by have := hbwz.size; omega)))
        have hBXw : w.heap.size + 1 + 1 + 1 ≤ BX := by omega
        clear hb12 hbwz hbz q0 q1 q2 q3 p0' p1' f0' f1' HO1z HO2z HVz HBz hBR hO1 hO2 hV
        by_cases hE : stErr y (outF y f b s) (outB y f b true) = 0
        · have HE := Lib.hid hE
          rw [hE]
          clear hE
          go_wp2
          obtain ⟨b0, hb0⟩ : ∃ b0, b0 = w.heap.size + 1 + 1 := ⟨_, rfl⟩
          have hBXn : OkB BX (BX + 1) b0 := ⟨by omega, by omega⟩
          have Hb0 := Lib.hid hb0
          clear hb0
          refine wp_region_laterX (B := BX + 1) (b0 :=  b0) [0, 1, 2] [3, 4, 5, 6, 7] (by kernel_rfl) (by kernel_rfl) ?_; simp only [List.filterMap_cons, List.filterMap_nil, List.getElem?_cons_zero, List.getElem?_cons_succ]; repeat (show wpQuiet _ _ _ _ (_ :: _) _; go_big_quiet_step (fail))
          refine wpQuiet_nil ?_
          obtain rfl := Hb0.out
          refine wpTail_cons ?_
          go_wp2_with (fail)
          refine tailX_mk (.of_below (by (repeat' (first | (with_reducible exact Below.refl _ _) | (with_reducible assumption) | (with_reducible refine Below.drewN ?_ _) | (with_reducible refine Below.alloc ?_ ?_ _) | (with_reducible refine Below.drew ?_) | (with_reducible refine Below.setCell ?_ ?_ _) | (with_reducible refine Below.step (by assumption) ?_ ?_) | (with_reducible exact And.left (by assumption)) | go_size)))) ?_
          refine wpTail_cons ?_
          go_wp2_with (at_builtin; refine wpList_append_sl _ rfl _ _ 31 rfl (BX + 1) 3 _ 1 8 Try.underlying31 infoInt rfl (by omega) (.slice av (k + 1) cv) (k + 1) _ rfl (HVy.out.drew.alloc _) _ 1 1 [.int .i64 (0)] rfl (SlR.lit _ _ _ _ _ 1 1 (by rfl) (by simp) rfl (by omega)) (by simp [Value.oneCell']) (by omega) (by omega) (by simp; omega) ?_)
          intro v2 w11 hown11 _ hb11
          obtain ⟨av2, cv2, rfl, _, _⟩ := owns_slice hown11
          have hov : w11.ownsRow (BX + 1) 3 1 (.slice av2 (k + 1 + 1) cv2) (k + 1 + 1) (icells (outV y f b s true)) := by
            rw [← fin_V (y := y) (f := f) (b := b) (s := s) (k := k) true (0) (by rw [HL.out.1]; omega) HX.out.symm, icells_append]; exact hown11
          have hb11' : Below (BX + 1) w12 w11 := Below.trans (b := _) (by (repeat' (first | (with_reducible exact Below.refl _ _) | (with_reducible assumption) | (with_reducible refine Below.drewN ?_ _) | (with_reducible refine Below.alloc ?_ ?_ _) | (with_reducible refine Below.drew ?_) | (with_reducible refine Below.setCell ?_ ?_ _) | (with_reducible refine Below.step (by assumption) ?_ ?_) | (with_reducible exact And.left (by assumption)) | go_size))) hb11
          have HOV := Lib.hid hov
          have HB11 := Lib.hid hb11'
          have hz11 := hb11'.size
          clear hown11 hb11 hov
          have p0' : w11.cell? ⟨w.heap.size + 1 + 1, 0, none⟩ = some (.slice none 0 0) := by { rw [cellB hb11' _ _ (by first | (simp; done) | (simp; omega) | omega)]; all_goals (first | assumption | go_simp) }; have p1' : w11.cell? ⟨w.heap.size + 1 + 1, 1, none⟩ = some (.slice none 0 0) := by { rw [cellB hb11' _ _ (by first | (simp; done) | (simp; omega) | omega)]; all_goals (first | assumption | go_simp) }; have f0' : w11.frozen? ⟨w.heap.size + 1 + 1, 0, none⟩ = false := by { rw [frozenB hb11' _ _ (by first | (simp; done) | (simp; omega) | omega)]; all_goals (first | assumption | go_simp) }; have f1' : w11.frozen? ⟨w.heap.size + 1 + 1, 1, none⟩ = false := by { rw [frozenB hb11' _ _ (by first | (simp; done) | (simp; omega) | omega)]; all_goals (first | assumption | go_simp) }; have l2'' : w.heap.size + 1 + 1 < w11.heap.size := by { omega }
          clear hb11'
          go_wp2_with (fail)
          refine tailX_mk (.of_below HB11.out) ?_
          refine wpTail_cons ?_
          go_wp2_with (fail)
          refine tailX_mk (.set (.set (.of_below HB11.out) _) _) ?_
          refine wpTail_cons ?_
          go_wp2_with (fail)
          refine tailX_mk (.set (.set (.of_below HB11.out) _) _) ?_
          refine wpTail_cons ?_
          go_wp2_with (fail)
          refine tailX_mk (.set (.set (.of_below HB11.out) _) _) ?_
          refine wpTail_nil ?_
          go_wp2
          refine bodyPost_ret (v := .tuple #[.agg #[.slice (some ⟨g1, 0, none⟩) n n, .slice (some ⟨g2, 0, none⟩) n n], .slice av2 (k + 1 + 1) cv2, .int .i64 0]) (by simp [results, Try.results27, go_sem, p0', p1']) rfl ⟨?_, .inr ⟨HE.out, g1, g2, av2, cv2, ?_, ?_, ?_, ?_⟩⟩
          · have := HBY.out
            have := HB11.out
            have h3 := Below.trans HBY.out (HB11.out.mono (by omega))
            (repeat' (first | (with_reducible exact Below.refl _ _) | (with_reducible assumption) | (with_reducible refine Below.drewN ?_ _) | (with_reducible refine Below.alloc ?_ ?_ _) | (with_reducible refine Below.drew ?_) | (with_reducible refine Below.setCell ?_ ?_ _) | (with_reducible refine Below.step (by assumption) ?_ ?_) | (with_reducible exact And.left (by assumption)) | go_size))
          · rw [show n = k + 1 by omega]
          · refine owns_mono (base := w.heap.size + 1 + 1 + 1) (ownsRow_setCell_other (ownsRow_setCell_other (owns_below HO1y.out HB11.out (fun q hq => ?_)) (a := ⟨w.heap.size + 1 + 1, 0, none⟩) ?_ _) (a := ⟨w.heap.size + 1 + 1, 1, none⟩) ?_ _) ?_ <;> (try simp [Value.ownBlock] at *) <;> omega
          · refine owns_mono (base := w.heap.size + 1 + 1 + 1) (ownsRow_setCell_other (ownsRow_setCell_other (owns_below HO2y.out HB11.out (fun q hq => ?_)) (a := ⟨w.heap.size + 1 + 1, 0, none⟩) ?_ _) (a := ⟨w.heap.size + 1 + 1, 1, none⟩) ?_ _) ?_ <;> (try simp [Value.ownBlock] at *) <;> omega
          · rw [show n + 1 = k + 1 + 1 by omega]
            exact owns_mono (base := BX + 1) (ownsRow_setCell_below (ownsRow_setCell_below HOV.out (a := ⟨w.heap.size + 1 + 1, 0, none⟩) (by simp; omega) _) (a := ⟨w.heap.size + 1 + 1, 1, none⟩) (by simp; omega) _) (by omega)
        · have HE := Lib.hid hE
          have hE' : (stErr y (outF y f b s) (outB y f b true) != 0) = true := by simpa using hE
          generalize hEE : stErr y (outF y f b s) (outB y f b true) = EE at hE'
          clear hE hEE
          go_wp2
          refine bodyPost_ret (v := .tuple #[.agg #[.slice none 0 0, .slice none 0 0], .slice none 0 0, .int .i64 22]) (by simp [results, Try.results27, go_sem, p0, p1]) rfl ⟨?_, .inl ⟨HE.out, rfl⟩⟩
          have := HBY.out
          (repeat' (first | (with_reducible exact Below.refl _ _) | (with_reducible assumption) | (with_reducible refine Below.drewN ?_ _) | (with_reducible refine Below.alloc ?_ ?_ _) | (with_reducible refine Below.drew ?_) | (with_reducible refine Below.setCell ?_ ?_ _) | (with_reducible refine Below.step (by assumption) ?_ ?_) | (with_reducible exact And.left (by assumption)) | go_size))
theorem step_main (y f b : List Int) (s : Int) (a a1 a2 : Option Addr) (n c n1 c1 n2 c2 : Nat) (e : Bool) (w : World) (hy : IntsR w a n y) (hf : IntsR w a1 n1 f) (hb : IntsR w a2 n2 b)
    (h0 : stErr y f b = 0) (hs : wi s (-1000000) 1000000 = true) :
    Calls Try.prog 27 #[.agg #[.slice a n c, .bool e], .agg #[.slice a1 n1 c1, .slice a2 n2 c2], .int .i64 s] w (StepPost y f b s e n w) :=
  (step_main2 y f b s a a1 a2 n c n1 c1 n2 c2 e w hy hf hb h0 hs).mono fun _ _ h => h.weak
end Go.Proofs.Ytbjgklifmillgaa
