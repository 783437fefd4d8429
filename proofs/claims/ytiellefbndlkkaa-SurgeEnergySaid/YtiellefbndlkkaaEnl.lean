/- The statement SurgeEnergy: the walk. -/
import Derived.Test.YtiellefbndlkkaaEnPlain
import Derived.Test.YtiellefbndlkkaaSteps
namespace Go.Proofs.Ytiellefbndlkkaa
open Go.RowKit
set_option linter.unusedVariables false

theorem heap_set2 {w : World} {X : Nat} {t : TypeId} {a b : Value} (h : w.heap[X]? = some (.cells #[a, b] t)) (v0 v1 : Value) :
    ((w.setCell ⟨X, 0, none⟩ v0).setCell ⟨X, 1, none⟩ v1).heap[X]? = some (.cells #[v0, v1] t) := by
  simp [World.setCell, Array.getElem?_modify, h]
theorem srE_cases {y f b : List Int} {s : Int} {e : Bool} (h0 : stErr y f b = 0) (hs : wi s (-1000000) 1000000 = true) : srE y f b s e = 0 ∨ srE y f b s e = 22 := by
  unfold srE
  rw [h0, hs, if_pos (by rfl)]
  split
  · exact .inl rfl
  · exact .inr rfl
theorem srE_zero {y f b : List Int} {s : Int} {e : Bool} (h : srE y f b s e = 0) : stErr y (outF y f b s) (outB y f b e) = 0 := (pE_zero (y := y) (f := f) (b := b) (s := s) (e := e) h).2.2
theorem srL_zero {y f b l : List Int} {s : Int} {e : Bool} (h : srE y f b s e = 0) : srL y f b s e l = l := by unfold srL; rw [if_pos h]
theorem srL_bd {y f b : List Int} {s : Int} {e : Bool} : (∀ x ∈ srL y f b s e (outF y f b s), -1000000 ≤ x ∧ x ≤ 1000000) ∧ (∀ x ∈ srL y f b s e (outB y f b e), -1000000 ≤ x ∧ x ≤ 1000000) := by
  unfold srL
  by_cases h : srE y f b s e = 0
  · rw [if_pos h, if_pos h]
    have := stErr_zero (srE_zero h)
    exact ⟨this.2.2.2.1, this.2.2.2.2⟩
  · rw [if_neg h, if_neg h]
    simp
theorem srL_len {y f b l : List Int} {s : Int} {e : Bool} (h : l.length ≤ 20) : (srL y f b s e l).length ≤ 20 := by
  unfold srL; split
  · exact h
  · simp
theorem srV_bd {y f b : List Int} {s : Int} {e : Bool} (h0 : stErr y f b = 0) (hs : wi s (-1000000) 1000000 = true) (k : Nat) : -100000000 ≤ g0 (srL y f b s e (outV y f b s e)) k ∧ g0 (srL y f b s e (outV y f b s e)) k ≤ 100000000 := by
  unfold srL
  split
  · exact outV_bd h0 hs k
  · rw [g0_ge (by simp)]; omega
set_option maxRecDepth 100000 in
theorem enl_few (y f b : List Int) (s : Int) (a a1 a2 : Option Addr) (n c n1 c1 n2 c2 : Nat) (e : Bool) (w : World) (hy : IntsR w a n y) (hf : IntsR w a1 n1 f) (hb : IntsR w a2 n2 b) (h : ¬ (n ≤ 12 ∧ stErr y f b = 0 ∧ wi s (-1000) 1000 = true)) :
    Calls Try.prog 3 #[.agg #[.slice a n c, .bool e], .agg #[.slice a1 n1 c1, .slice a2 n2 c2], .int .i64 s] w fun e' w' => e' = .returned (.bool true) ∧ Below w.heap.size w w' := by
  obtain ⟨g, hg⟩ : ∃ g, g = decide ((n : Int) ≤ 12) := ⟨_, rfl⟩
  have hn := hy.small
  have HFS := Lib.hid (fun w' => fewSections_any a n c e w' hn)
  rw [← hg] at HFS
  have HSE := Lib.hid (fun (v : World) (hv : Below w.heap.size w v) => rstateErr_any y f b a a1 a2 n c n1 c1 n2 c2 e v (hy.below hv) (hf.below hv) (hb.below hv))
  obtain ⟨T, hT⟩ : ∃ T, T = stErr y f b := ⟨_, rfl⟩
  have HWI := Lib.hid (fun w' => bwithin_any s (-1000) 1000 w')
  obtain ⟨v, hv⟩ : ∃ v, v = wi s (-1000) 1000 := ⟨_, rfl⟩
  rw [← hT] at HSE
  rw [← hv] at HWI
  have hcase : g = false ∨ (g = true ∧ T ≠ 0) ∨ (g = true ∧ T = 0 ∧ v = false) := by
    by_cases h1 : n ≤ 12
    · have hg1 : g = true := by rw [hg]; simp; omega
      by_cases h2 : T = 0
      · refine .inr (.inr ⟨hg1, h2, ?_⟩)
        cases v
        · rfl
        · exact absurd ⟨h1, by rw [← hT]; exact h2, hv.symm⟩ h
      · exact .inr (.inl ⟨hg1, h2⟩)
    · exact .inl (by rw [hg]; simp; omega)
  clear hg h hy hf hb hT hv
  rcases hcase with rfl | ⟨rfl, i2⟩ | ⟨rfl, rfl, rfl⟩
  all_goals
    go_enter Try.func3, Try.ntmps3
    go_wp2_with fail
    refine (awake_any _).mono ?_
    rintro e5 w5 ⟨rfl, hb5⟩
    have hz5 := hb5.size
    simp only [World.size_alloc] at hz5
    have q0 : w5.cell? ⟨w.heap.size, 0, none⟩ = some (.slice a n c) := by { rw [cellB hb5 _ _ (by first | (simp; done) | (simp; omega) | omega)]; all_goals (first | assumption | go_simp) }; have q1 : w5.cell? ⟨w.heap.size, 1, none⟩ = some (.bool e) := by { rw [cellB hb5 _ _ (by first | (simp; done) | (simp; omega) | omega)]; all_goals (first | assumption | go_simp) }; have q2 : w5.cell? ⟨w.heap.size + 1, 0, none⟩ = some (.slice a1 n1 c1) := by { rw [cellB hb5 _ _ (by first | (simp; done) | (simp; omega) | omega)]; all_goals (first | assumption | go_simp) }; have q3 : w5.cell? ⟨w.heap.size + 1, 1, none⟩ = some (.slice a2 n2 c2) := by { rw [cellB hb5 _ _ (by first | (simp; done) | (simp; omega) | omega)]; all_goals (first | assumption | go_simp) }; have l0 : w.heap.size < w5.heap.size := by { omega }; have l1 : w.heap.size + 1 < w5.heap.size := by { omega }
    have HB5 := Lib.hid (show Below w.heap.size w w5 by (repeat' (first | (with_reducible exact Below.refl _ _) | (with_reducible assumption) | (with_reducible refine Below.drewN ?_ _) | (with_reducible refine Below.alloc ?_ ?_ _) | (with_reducible refine Below.drew ?_) | (with_reducible refine Below.setCell ?_ ?_ _) | (with_reducible refine Below.step (by assumption) ?_ ?_) | (with_reducible exact And.left (by assumption)) | go_size)))
    clear hb5
    go_wp2_with fail
    refine (HFS.out _).mono ?_
    rintro e6 w6 ⟨rfl, hb6⟩
    have hz6 := hb6.size
    have q0' : w6.cell? ⟨w.heap.size, 0, none⟩ = some (.slice a n c) := by { rw [cellB hb6 _ _ (by first | (simp; done) | (simp; omega) | omega)]; all_goals (first | assumption | go_simp) }; have q1' : w6.cell? ⟨w.heap.size, 1, none⟩ = some (.bool e) := by { rw [cellB hb6 _ _ (by first | (simp; done) | (simp; omega) | omega)]; all_goals (first | assumption | go_simp) }; have q2' : w6.cell? ⟨w.heap.size + 1, 0, none⟩ = some (.slice a1 n1 c1) := by { rw [cellB hb6 _ _ (by first | (simp; done) | (simp; omega) | omega)]; all_goals (first | assumption | go_simp) }; have q3' : w6.cell? ⟨w.heap.size + 1, 1, none⟩ = some (.slice a2 n2 c2) := by { rw [cellB hb6 _ _ (by first | (simp; done) | (simp; omega) | omega)]; all_goals (first | assumption | go_simp) }; have l0' : w.heap.size < w6.heap.size := by { omega }; have l1' : w.heap.size + 1 < w6.heap.size := by { omega }
    have HB6 := Lib.hid (HB5.out.trans (hb6.mono HB5.out.size))
    clear hb6 HB5 q0 q1 q2 q3 l0 l1
  · go_wp2
    go_ret
    exact ⟨rfl, HB6.out⟩
  · have i3 : (T != 0) = true := by simpa using i2
    go_wp2_with fail
    refine (HSE.out _ HB6.out).mono ?_
    rintro e7 w7 ⟨rfl, hb7⟩
    have HB7 := Lib.hid (HB6.out.trans (hb7.mono HB6.out.size))
    clear hb7 HB6
    go_wp2
    go_ret
    exact ⟨rfl, HB7.out⟩
  · go_wp2_with fail
    refine (HSE.out _ HB6.out).mono ?_
    rintro e7 w7 ⟨rfl, hb7⟩
    have HB7 := Lib.hid (HB6.out.trans (hb7.mono HB6.out.size))
    clear hb7 HB6
    go_wp2_with fail
    refine (HWI.out _).mono ?_
    rintro e8 w8 ⟨rfl, rfl⟩
    go_wp2
    go_ret
    exact ⟨rfl, HB7.out⟩
set_option maxHeartbeats 4000000 in
set_option maxRecDepth 100000 in
theorem enl_main (y f b : List Int) (s : Int) (a a1 a2 : Option Addr) (n c c1 c2 : Nat) (e : Bool) (w : World) (hy : IntsR w a n y) (hf : IntsR w a1 n f) (hb : IntsR w a2 n b) (h0 : stErr y f b = 0) (hs : wi s (-1000) 1000 = true) :
    Calls Try.prog 3 #[.agg #[.slice a n c, .bool e], .agg #[.slice a1 n c1, .slice a2 n c2], .int .i64 s] w fun e' w' => e' = .returned (.bool true) ∧ Below w.heap.size w w' := by
  have HY := Lib.hid hy
  have HF := Lib.hid hf
  have HB := Lib.hid hb
  have hz := stErr_zero h0
  have hlz := lineErr_zero hz.1
  have hyl := hy.len
  rw [hyl] at hlz
  have hn0 := hlz.1
  have hn10 := hlz.2.1
  have i1 : (n : Int) ≤ 12 := by omega
  have HFB := Lib.hid hz.2.2.2
  have HYB := Lib.hid hlz.2.2
  have H0 := Lib.hid h0
  have hsb := wi_iff.1 hs
  have HWI := Lib.hid (fun w' => bwithin_any s (-1000) 1000 w')
  rw [hs] at HWI
  have HSI := Lib.hid (show wi s (-1000000) 1000000 = true from wi_iff.2 ⟨by omega, by omega⟩)
  have HSE := Lib.hid (fun (v : World) (hv : Below w.heap.size w v) => rstateErr_any y f b a a1 a2 n c n c1 n c2 e v (hy.below hv) (hf.below hv) (hb.below hv))
  rw [h0] at HSE
  have HM := Lib.hid (show enOf y f b = enUpto y f b n by unfold enOf; rw [if_pos h0, hyl])
  have HML := Lib.hid (show enUpto y (outF y f b 0) (outB y f b e) n ≤ enUpto y f b n by rw [← hyl]; exact en_less e HYB.out (by omega))
  have HMP := Lib.hid (show 0 ≤ enUpto y (outF y f b 0) (outB y f b e) n by exact en_pos HYB.out n (by omega))
  have HYL := Lib.hid hyl
  clear hy hf hb hz hlz hyl h0 hs
  go_enter Try.func3, Try.ntmps3
  go_wp2_with fail
  refine (awake_any _).mono ?_
  rintro e5 w5 ⟨rfl, hb5⟩
  have hz5 := hb5.size
  simp only [World.size_alloc] at hz5
  have q0 : w5.cell? ⟨w.heap.size, 0, none⟩ = some (.slice a n c) := by { rw [cellB hb5 _ _ (by first | (simp; done) | (simp; omega) | omega)]; all_goals (first | assumption | go_simp) }; have q1 : w5.cell? ⟨w.heap.size, 1, none⟩ = some (.bool e) := by { rw [cellB hb5 _ _ (by first | (simp; done) | (simp; omega) | omega)]; all_goals (first | assumption | go_simp) }; have q2 : w5.cell? ⟨w.heap.size + 1, 0, none⟩ = some (.slice a1 n c1) := by { rw [cellB hb5 _ _ (by first | (simp; done) | (simp; omega) | omega)]; all_goals (first | assumption | go_simp) }; have q3 : w5.cell? ⟨w.heap.size + 1, 1, none⟩ = some (.slice a2 n c2) := by { rw [cellB hb5 _ _ (by first | (simp; done) | (simp; omega) | omega)]; all_goals (first | assumption | go_simp) }; have l0 : w.heap.size < w5.heap.size := by { omega }; have l1 : w.heap.size + 1 < w5.heap.size := by { omega }
  have HBv := Lib.hid (show Below w.heap.size w w5 by (repeat' (first | (with_reducible exact Below.refl _ _) | (with_reducible assumption) | (with_reducible refine Below.drewN ?_ _) | (with_reducible refine Below.alloc ?_ ?_ _) | (with_reducible refine Below.drew ?_) | (with_reducible refine Below.setCell ?_ ?_ _) | (with_reducible refine Below.step (by assumption) ?_ ?_) | (with_reducible exact And.left (by assumption)) | go_size)))
  clear hb5 hz5
  go_wp2_with fail
  refine (fewSections_any _ _ _ _ _ (by omega)).mono ?_
  rintro e6 w6 ⟨rfl, hbx⟩
  rw [show decide ((n : Int) ≤ 12) = true by simpa using i1]
  have hzx := hbx.size
  have q0c : w6.cell? ⟨w.heap.size, 0, none⟩ = some (.slice a n c) := by { rw [cellB hbx _ _ (by first | (simp; done) | (simp; omega) | omega)]; all_goals (first | assumption | go_simp) }; have q1c : w6.cell? ⟨w.heap.size, 1, none⟩ = some (.bool e) := by { rw [cellB hbx _ _ (by first | (simp; done) | (simp; omega) | omega)]; all_goals (first | assumption | go_simp) }; have q2c : w6.cell? ⟨w.heap.size + 1, 0, none⟩ = some (.slice a1 n c1) := by { rw [cellB hbx _ _ (by first | (simp; done) | (simp; omega) | omega)]; all_goals (first | assumption | go_simp) }; have q3c : w6.cell? ⟨w.heap.size + 1, 1, none⟩ = some (.slice a2 n c2) := by { rw [cellB hbx _ _ (by first | (simp; done) | (simp; omega) | omega)]; all_goals (first | assumption | go_simp) }; have l0c : w.heap.size < w6.heap.size := by { omega }; have l1c : w.heap.size + 1 < w6.heap.size := by { omega }
  have HBv := Lib.hid (HBv.out.trans (hbx.mono HBv.out.size))
  clear hbx hzx q0 q1 q2 q3 l0 l1 
  go_wp2_with fail
  refine (HSE.out _ HBv.out).mono ?_
  rintro e7 w7 ⟨rfl, hbx⟩
  have hzx := hbx.size
  have q0 : w7.cell? ⟨w.heap.size, 0, none⟩ = some (.slice a n c) := by { rw [cellB hbx _ _ (by first | (simp; done) | (simp; omega) | omega)]; all_goals (first | assumption | go_simp) }; have q1 : w7.cell? ⟨w.heap.size, 1, none⟩ = some (.bool e) := by { rw [cellB hbx _ _ (by first | (simp; done) | (simp; omega) | omega)]; all_goals (first | assumption | go_simp) }; have q2 : w7.cell? ⟨w.heap.size + 1, 0, none⟩ = some (.slice a1 n c1) := by { rw [cellB hbx _ _ (by first | (simp; done) | (simp; omega) | omega)]; all_goals (first | assumption | go_simp) }; have q3 : w7.cell? ⟨w.heap.size + 1, 1, none⟩ = some (.slice a2 n c2) := by { rw [cellB hbx _ _ (by first | (simp; done) | (simp; omega) | omega)]; all_goals (first | assumption | go_simp) }; have l0 : w.heap.size < w7.heap.size := by { omega }; have l1 : w.heap.size + 1 < w7.heap.size := by { omega }
  have HBv := Lib.hid (HBv.out.trans (hbx.mono HBv.out.size))
  clear hbx hzx q0c q1c q2c q3c l0c l1c 
  go_wp2_with fail
  refine (HWI.out _).mono ?_
  rintro e8 _ ⟨rfl, rfl⟩
  go_wp2_with fail
  refine wp_region_laterM (B := w7.heap.size) [(true, 0), (true, 2), (false, 1), (false, 3), (false, 4), (true, 5), (true, 6), (true, 7), (true, 8), (true, 9)] (by kernel_rfl) (by kernel_rfl) ?_; simp only [opsOf, List.filterMap_cons, List.filterMap_nil, List.getElem?_toArray, List.getElem?_cons_zero, List.getElem?_cons_succ, Option.map_some]
  repeat (refine mix_head ?_; (show wpQuiet _ _ _ _ (_ :: _) _; go_big_quiet_step (fail)); refine wpQuiet_nil ?_)
  refine mix_tail ?_; go_wp2_with fail
  refine (copyLine_any y _ n c e _ (HY.out.below HBv.out.drew) (by omega)).mono ?_
  rintro e10 va ⟨ac, cc, rfl, hba, hla⟩
  have HNv := Lib.hid ((Below.refl w7.heap.size w7).drew.trans hba)
  have HBu := Lib.hid (HBv.out.trans (HNv.out.mono HBv.out.size))
  have HLn := Lib.hid hla
  clear hba hla
  go_wp2_with fail
  refine tailL_mk HNv.out ?_
  refine mix_tail ?_; go_wp2_with fail
  refine (copyState_any f b _ _ n c1 n c2 _ (HF.out.below HBu.out) (HB.out.below HBu.out) (by omega) (by omega)).mono ?_
  rintro e11 vb ⟨ad, cd, ae, ce, rfl, hbb, hs1, hs2⟩
  have HLn := Lib.hid (HLn.out.below hbb)
  have HNv := Lib.hid (HNv.out.trans (hbb.mono HNv.out.size))
  have HSt := Lib.hid (And.intro hs1 hs2)
  clear hbb hs1 hs2
  go_wp2_with fail
  refine tailL_mk HNv.out ?_
  refine mix_tail ?_; go_wp2_with fail
  refine (energy_u y f b ac ad ae n cc n cd n ce e _ HLn.out HSt.out.1 HSt.out.2 (by omega) (by omega)).mono ?_
  rintro e12 w8 ⟨rfl, hbc⟩
  have hbx : Below w7.heap.size w7 w8 := HNv.out.trans (hbc.mono HNv.out.size)
  have HNv := Lib.hid hbx
  clear hbc HLn HSt HBu
  rw [H0.out, HM.out]
  obtain ⟨M, hM⟩ : ∃ M, M = enUpto y f b n := ⟨_, rfl⟩
  rw [← hM] at HML ⊢
  clear hM HM
  go_wp2_with fail
  refine tailL_mk HNv.out ?_
  repeat (refine mix_head ?_; (show wpQuiet _ _ _ _ (_ :: _) _; go_big_quiet_step (fail)); refine wpQuiet_nil ?_)
  refine mix_nil ?_
  have hzx := hbx.size
  have q0c : w8.cell? ⟨w.heap.size, 0, none⟩ = some (.slice a n c) := by { rw [cellB hbx _ _ (by first | (simp; done) | (simp; omega) | omega)]; all_goals (first | assumption | go_simp) }; have q1c : w8.cell? ⟨w.heap.size, 1, none⟩ = some (.bool e) := by { rw [cellB hbx _ _ (by first | (simp; done) | (simp; omega) | omega)]; all_goals (first | assumption | go_simp) }; have q2c : w8.cell? ⟨w.heap.size + 1, 0, none⟩ = some (.slice a1 n c1) := by { rw [cellB hbx _ _ (by first | (simp; done) | (simp; omega) | omega)]; all_goals (first | assumption | go_simp) }; have q3c : w8.cell? ⟨w.heap.size + 1, 1, none⟩ = some (.slice a2 n c2) := by { rw [cellB hbx _ _ (by first | (simp; done) | (simp; omega) | omega)]; all_goals (first | assumption | go_simp) }; have l0c : w.heap.size < w8.heap.size := by { omega }; have l1c : w.heap.size + 1 < w8.heap.size := by { omega }
  have HBv := Lib.hid (HBv.out.trans (hbx.mono HBv.out.size))
  clear hbx hzx q0 q1 q2 q3 l0 l1 HNv
  go_wp2_with fail
  go_cut [9, 10, 11] from 52 to 60 (fun v9 v10 v11 wx => ∃ X9 aF nF cF aB nB cB aV nV cV, v9 = .pointer (some ⟨X9, 0, none⟩) ∧ v10 = .slice aV nV cV ∧ v11 = .int .i64 (srE y f b (0 : Int) e) ∧ wx.cell? ⟨X9, 0, none⟩ = some (.slice aF nF cF) ∧ wx.cell? ⟨X9, 1, none⟩ = some (.slice aB nB cB) ∧ X9 < wx.heap.size ∧
        Hid (IntsR wx aF nF (srL y f b (0 : Int) e (outF y f b (0 : Int))) ∧ IntsR wx aB nB (srL y f b (0 : Int) e (outB y f b e)) ∧ IntsR wx aV nV (srL y f b (0 : Int) e (outV y f b (0 : Int) e))) ∧ Hid (Below w8.heap.size w8 wx))
  case first =>
    have HBv := Lib.hid HBv.out.drew
    have HNv := Lib.hid (Below.refl w8.heap.size w8).drew
    refine wp_region_laterT (B := w8.heap.size) (.head 0 (.head 2 (.two 1 (.two 3 (.two 4 (.head 5 (.head 6 (.head 7 (.head 8 (.one 9 (.one 10 (.head 11 (.head 12 .done)))))))) 9 (.one 4 (.head 5 (.head 6 (.head 7 (.head 8 (.one 10 (.head 11 (.head 12 .done))))))))) 9 (.one 3 (.one 4 (.head 5 (.head 6 (.head 7 (.head 8 (.one 10 (.head 11 (.head 12 .done)))))))))) 9 (.one 1 (.one 3 (.one 4 (.head 5 (.head 6 (.head 7 (.head 8 (.one 10 (.head 11 (.head 12 .done))))))))))))) (by kernel_rfl) (by kernel_rfl) ?_
    repeat (refine tree_head rfl ?_; (show wpQuiet _ _ _ _ (_ :: _) _; go_big_quiet_step (fail)); refine wpQuiet_nil ?_)
    refine tree_two rfl rfl ?_ ?_
    ·
      go_wp2_with fail
      refine (copyLine_any y _ n c e _ (HY.out.below HBv.out) (by omega)).mono ?_
      rintro eL va ⟨al, cl, rfl, hbx, hl⟩
      have HLn := Lib.hid hl
      have HBv := Lib.hid (HBv.out.trans (hbx.mono HBv.out.size))
      have HNv := Lib.hid (HNv.out.trans (hbx.mono HNv.out.size))
      clear hl
      clear hbx
      go_wp2_with fail
      refine tailL_mk HNv.out ?_
      refine tree_two rfl rfl ?_ ?_
      ·
        go_wp2_with fail
        refine (copyState_any f b _ _ n c1 n c2 _ (HF.out.below HBv.out) (HB.out.below HBv.out) (by omega) (by omega)).mono ?_
        rintro eS vb ⟨a5, c5, a6, c6, rfl, hbx, hs1, hs2⟩
        have HSt := Lib.hid (And.intro hs1 hs2)
        have HBv := Lib.hid (HBv.out.trans (hbx.mono HBv.out.size))
        have HNv := Lib.hid (HNv.out.trans (hbx.mono HNv.out.size))
        clear hs1 hs2
        have HLn := Lib.hid (HLn.out.below hbx)
        clear hbx
        go_wp2_with fail
        refine tailL_mk HNv.out ?_
        refine tree_two rfl rfl ?_ ?_
        ·
          go_wp2_with fail
          refine (step_u y f b (0 : Int) al a5 a6 n cl n c5 n c6 e _ HLn.out HSt.out.1 HSt.out.2 (by omega) (by omega)).mono ?_
          rintro eT vc ⟨hbx, aF, nF, cF, aB, nB, cB, aV, nV, cV, rfl, hr1, hr2, hr3⟩
          have HR := Lib.hid (And.intro hr1 (And.intro hr2 hr3))
          have HBv := Lib.hid (HBv.out.trans (hbx.mono HBv.out.size))
          have HNv := Lib.hid (HNv.out.trans (hbx.mono HNv.out.size))
          clear hr1 hr2 hr3
          clear hbx
          go_wp2_with fail
          refine tailL_mk HNv.out ?_
          repeat (refine tree_head rfl ?_; (show wpQuiet _ _ _ _ (_ :: _) _; go_big_quiet_step (fail)); refine wpQuiet_nil ?_)
          refine tree_one rfl ?_
          go_wp2_with fail
          obtain ⟨X9, hX9⟩ : ∃ X, X = vc.heap.size := ⟨_, rfl⟩
          have hNX : w8.heap.size ≤ X9 := by rw [hX9]; exact HNv.out.size
          have hx9 : (vc.alloc (Obj.cells #[Value.slice none 0 0, Value.slice none 0 0] 26)).heap[X9]? = some (.cells #[Value.slice none 0 0, Value.slice none 0 0] 26) := by rw [hX9]; exact heap_alloc_new _ _
          have l9 : X9 < (vc.alloc (Obj.cells #[Value.slice none 0 0, Value.slice none 0 0] 26)).heap.size := by rw [hX9]; simp
          have hbx : Below vc.heap.size vc (vc.alloc (Obj.cells #[Value.slice none 0 0, Value.slice none 0 0] 26)) := by (repeat' (first | (with_reducible exact Below.refl _ _) | (with_reducible assumption) | (with_reducible refine Below.drewN ?_ _) | (with_reducible refine Below.alloc ?_ ?_ _) | (with_reducible refine Below.drew ?_) | (with_reducible refine Below.setCell ?_ ?_ _) | (with_reducible refine Below.step (by assumption) ?_ ?_) | (with_reducible exact And.left (by assumption)) | go_size))
          try simp only [← hX9]
          generalize vc.alloc (Obj.cells #[Value.slice none 0 0, Value.slice none 0 0] 26) = vd at *
          have HBv := Lib.hid (HBv.out.trans (hbx.mono HBv.out.size))
          have HNv := Lib.hid (HNv.out.trans (hbx.mono HNv.out.size))
          clear hX9
          have HR := Lib.hid (And.intro (HR.out.1.below hbx) (And.intro (HR.out.2.1.below hbx) (HR.out.2.2.below hbx)))
          clear hbx
          refine tailL_mk HNv.out ?_
          refine tree_one rfl ?_
          have c90 := cell_of_row _ _ 0 _ _ _ hx9
          have c91 := cell_of_row _ _ 1 _ _ _ hx9
          have f90 := frozen_of_row _ _ 0 _ _ hx9
          have f91 := frozen_of_row _ _ 1 _ _ hx9
          simp only [List.getElem?_toArray, List.getElem?_cons_zero, List.getElem?_cons_succ] at c90 c91
          go_wp2_with fail
          have HN := Lib.hid (show Below w8.heap.size w8 ((vd.setCell ⟨X9, 0, none⟩ (.slice aF nF cF)).setCell ⟨X9, 1, none⟩ (.slice aB nB cB)) from Below.setCell (Below.setCell HNv.out hNX _) hNX _)
          refine tailL_mk HN.out ?_
          repeat (refine tree_head rfl ?_; (show wpQuiet _ _ _ _ (_ :: _) _; go_big_quiet_step (fail)); refine wpQuiet_nil ?_)
          refine tree_done ?_
          go_wp2_with fail
          go_meet
          case rel => exact ⟨X9, aF, nF, cF, aB, nB, cB, aV, nV, cV, rfl, rfl, rfl, by go_simp, by go_simp, by simpa using l9, Lib.hid ⟨ints_stored HR.out.1 hx9 _ _, ints_stored HR.out.2.1 hx9 _ _, ints_stored HR.out.2.2 hx9 _ _⟩, HN⟩
        ·
          go_wp2_with fail
          obtain ⟨X9, hX9⟩ : ∃ X, X = vb.heap.size := ⟨_, rfl⟩
          have hNX : w8.heap.size ≤ X9 := by rw [hX9]; exact HNv.out.size
          have hx9 : (vb.alloc (Obj.cells #[Value.slice none 0 0, Value.slice none 0 0] 26)).heap[X9]? = some (.cells #[Value.slice none 0 0, Value.slice none 0 0] 26) := by rw [hX9]; exact heap_alloc_new _ _
          have l9 : X9 < (vb.alloc (Obj.cells #[Value.slice none 0 0, Value.slice none 0 0] 26)).heap.size := by rw [hX9]; simp
          have hbx : Below vb.heap.size vb (vb.alloc (Obj.cells #[Value.slice none 0 0, Value.slice none 0 0] 26)) := by (repeat' (first | (with_reducible exact Below.refl _ _) | (with_reducible assumption) | (with_reducible refine Below.drewN ?_ _) | (with_reducible refine Below.alloc ?_ ?_ _) | (with_reducible refine Below.drew ?_) | (with_reducible refine Below.setCell ?_ ?_ _) | (with_reducible refine Below.step (by assumption) ?_ ?_) | (with_reducible exact And.left (by assumption)) | go_size))
          try simp only [← hX9]
          generalize vb.alloc (Obj.cells #[Value.slice none 0 0, Value.slice none 0 0] 26) = vc at *
          have HBv := Lib.hid (HBv.out.trans (hbx.mono HBv.out.size))
          have HNv := Lib.hid (HNv.out.trans (hbx.mono HNv.out.size))
          clear hX9
          have HLn := Lib.hid (HLn.out.below hbx)
          have HSt := Lib.hid (And.intro (HSt.out.1.below hbx) (HSt.out.2.below hbx))
          clear hbx
          refine tailL_mk HNv.out ?_
          refine tree_one rfl ?_; go_wp2_with fail
          refine (step_u y f b (0 : Int) al a5 a6 n cl n c5 n c6 e _ HLn.out HSt.out.1 HSt.out.2 (by omega) (by omega)).mono ?_
          rintro eT vd ⟨hbx, aF, nF, cF, aB, nB, cB, aV, nV, cV, rfl, hr1, hr2, hr3⟩
          have HR := Lib.hid (And.intro hr1 (And.intro hr2 hr3))
          have HBv := Lib.hid (HBv.out.trans (hbx.mono HBv.out.size))
          have HNv := Lib.hid (HNv.out.trans (hbx.mono HNv.out.size))
          clear hr1 hr2 hr3
          have hx9 := (hbx.block X9 l9).trans hx9
          have l9 := Nat.lt_of_lt_of_le l9 hbx.size
          clear hbx
          go_wp2_with fail
          refine tailL_mk HNv.out ?_
          repeat (refine tree_head rfl ?_; (show wpQuiet _ _ _ _ (_ :: _) _; go_big_quiet_step (fail)); refine wpQuiet_nil ?_)
          refine tree_one rfl ?_
          have c90 := cell_of_row _ _ 0 _ _ _ hx9
          have c91 := cell_of_row _ _ 1 _ _ _ hx9
          have f90 := frozen_of_row _ _ 0 _ _ hx9
          have f91 := frozen_of_row _ _ 1 _ _ hx9
          simp only [List.getElem?_toArray, List.getElem?_cons_zero, List.getElem?_cons_succ] at c90 c91
          go_wp2_with fail
          have HN := Lib.hid (show Below w8.heap.size w8 ((vd.setCell ⟨X9, 0, none⟩ (.slice aF nF cF)).setCell ⟨X9, 1, none⟩ (.slice aB nB cB)) from Below.setCell (Below.setCell HNv.out hNX _) hNX _)
          refine tailL_mk HN.out ?_
          repeat (refine tree_head rfl ?_; (show wpQuiet _ _ _ _ (_ :: _) _; go_big_quiet_step (fail)); refine wpQuiet_nil ?_)
          refine tree_done ?_
          go_wp2_with fail
          go_meet
          case rel => exact ⟨X9, aF, nF, cF, aB, nB, cB, aV, nV, cV, rfl, rfl, rfl, by go_simp, by go_simp, by simpa using l9, Lib.hid ⟨ints_stored HR.out.1 hx9 _ _, ints_stored HR.out.2.1 hx9 _ _, ints_stored HR.out.2.2 hx9 _ _⟩, HN⟩
      ·
        go_wp2_with fail
        obtain ⟨X9, hX9⟩ : ∃ X, X = va.heap.size := ⟨_, rfl⟩
        have hNX : w8.heap.size ≤ X9 := by rw [hX9]; exact HNv.out.size
        have hx9 : (va.alloc (Obj.cells #[Value.slice none 0 0, Value.slice none 0 0] 26)).heap[X9]? = some (.cells #[Value.slice none 0 0, Value.slice none 0 0] 26) := by rw [hX9]; exact heap_alloc_new _ _
        have l9 : X9 < (va.alloc (Obj.cells #[Value.slice none 0 0, Value.slice none 0 0] 26)).heap.size := by rw [hX9]; simp
        have hbx : Below va.heap.size va (va.alloc (Obj.cells #[Value.slice none 0 0, Value.slice none 0 0] 26)) := by (repeat' (first | (with_reducible exact Below.refl _ _) | (with_reducible assumption) | (with_reducible refine Below.drewN ?_ _) | (with_reducible refine Below.alloc ?_ ?_ _) | (with_reducible refine Below.drew ?_) | (with_reducible refine Below.setCell ?_ ?_ _) | (with_reducible refine Below.step (by assumption) ?_ ?_) | (with_reducible exact And.left (by assumption)) | go_size))
        try simp only [← hX9]
        generalize va.alloc (Obj.cells #[Value.slice none 0 0, Value.slice none 0 0] 26) = vb at *
        have HBv := Lib.hid (HBv.out.trans (hbx.mono HBv.out.size))
        have HNv := Lib.hid (HNv.out.trans (hbx.mono HNv.out.size))
        clear hX9
        have HLn := Lib.hid (HLn.out.below hbx)
        clear hbx
        refine tailL_mk HNv.out ?_
        refine tree_one rfl ?_; go_wp2_with fail
        refine (copyState_any f b _ _ n c1 n c2 _ (HF.out.below HBv.out) (HB.out.below HBv.out) (by omega) (by omega)).mono ?_
        rintro eS vc ⟨a5, c5, a6, c6, rfl, hbx, hs1, hs2⟩
        have HSt := Lib.hid (And.intro hs1 hs2)
        have HBv := Lib.hid (HBv.out.trans (hbx.mono HBv.out.size))
        have HNv := Lib.hid (HNv.out.trans (hbx.mono HNv.out.size))
        clear hs1 hs2
        have HLn := Lib.hid (HLn.out.below hbx)
        have hx9 := (hbx.block X9 l9).trans hx9
        have l9 := Nat.lt_of_lt_of_le l9 hbx.size
        clear hbx
        go_wp2_with fail
        refine tailL_mk HNv.out ?_
        refine tree_one rfl ?_; go_wp2_with fail
        refine (step_u y f b (0 : Int) al a5 a6 n cl n c5 n c6 e _ HLn.out HSt.out.1 HSt.out.2 (by omega) (by omega)).mono ?_
        rintro eT vd ⟨hbx, aF, nF, cF, aB, nB, cB, aV, nV, cV, rfl, hr1, hr2, hr3⟩
        have HR := Lib.hid (And.intro hr1 (And.intro hr2 hr3))
        have HBv := Lib.hid (HBv.out.trans (hbx.mono HBv.out.size))
        have HNv := Lib.hid (HNv.out.trans (hbx.mono HNv.out.size))
        clear hr1 hr2 hr3
        have hx9 := (hbx.block X9 l9).trans hx9
        have l9 := Nat.lt_of_lt_of_le l9 hbx.size
        clear hbx
        go_wp2_with fail
        refine tailL_mk HNv.out ?_
        repeat (refine tree_head rfl ?_; (show wpQuiet _ _ _ _ (_ :: _) _; go_big_quiet_step (fail)); refine wpQuiet_nil ?_)
        refine tree_one rfl ?_
        have c90 := cell_of_row _ _ 0 _ _ _ hx9
        have c91 := cell_of_row _ _ 1 _ _ _ hx9
        have f90 := frozen_of_row _ _ 0 _ _ hx9
        have f91 := frozen_of_row _ _ 1 _ _ hx9
        simp only [List.getElem?_toArray, List.getElem?_cons_zero, List.getElem?_cons_succ] at c90 c91
        go_wp2_with fail
        have HN := Lib.hid (show Below w8.heap.size w8 ((vd.setCell ⟨X9, 0, none⟩ (.slice aF nF cF)).setCell ⟨X9, 1, none⟩ (.slice aB nB cB)) from Below.setCell (Below.setCell HNv.out hNX _) hNX _)
        refine tailL_mk HN.out ?_
        repeat (refine tree_head rfl ?_; (show wpQuiet _ _ _ _ (_ :: _) _; go_big_quiet_step (fail)); refine wpQuiet_nil ?_)
        refine tree_done ?_
        go_wp2_with fail
        go_meet
        case rel => exact ⟨X9, aF, nF, cF, aB, nB, cB, aV, nV, cV, rfl, rfl, rfl, by go_simp, by go_simp, by simpa using l9, Lib.hid ⟨ints_stored HR.out.1 hx9 _ _, ints_stored HR.out.2.1 hx9 _ _, ints_stored HR.out.2.2 hx9 _ _⟩, HN⟩
    ·
      go_wp2_with fail
      obtain ⟨X9, hX9⟩ : ∃ X, X = w8.heap.size := ⟨_, rfl⟩
      have hNX : w8.heap.size ≤ X9 := by omega
      have hx9 : (w8.alloc (Obj.cells #[Value.slice none 0 0, Value.slice none 0 0] 26)).drew.heap[X9]? = some (.cells #[Value.slice none 0 0, Value.slice none 0 0] 26) := by rw [hX9]; exact heap_alloc_new _ _
      have l9 : X9 < (w8.alloc (Obj.cells #[Value.slice none 0 0, Value.slice none 0 0] 26)).drew.heap.size := by rw [hX9]; simp
      have hbx : Below w8.drew.heap.size w8.drew (w8.alloc (Obj.cells #[Value.slice none 0 0, Value.slice none 0 0] 26)).drew := (have h0 : Below w8.heap.size w8 (w8.alloc (Obj.cells #[Value.slice none 0 0, Value.slice none 0 0] 26)).drew := (by (repeat' (first | (with_reducible exact Below.refl _ _) | (with_reducible assumption) | (with_reducible refine Below.drewN ?_ _) | (with_reducible refine Below.alloc ?_ ?_ _) | (with_reducible refine Below.drew ?_) | (with_reducible refine Below.setCell ?_ ?_ _) | (with_reducible refine Below.step (by assumption) ?_ ?_) | (with_reducible exact And.left (by assumption)) | go_size))); ⟨h0.os, h0.tape, h0.output, h0.size, h0.block⟩)
      try simp only [← hX9]
      generalize (w8.alloc (Obj.cells #[Value.slice none 0 0, Value.slice none 0 0] 26)).drew = va at *
      have HBv := Lib.hid (HBv.out.trans (hbx.mono HBv.out.size))
      have HNv := Lib.hid (HNv.out.trans (hbx.mono HNv.out.size))
      clear hX9 hbx
      refine tailL_mk HNv.out ?_
      refine tree_one rfl ?_; go_wp2_with fail
      refine (copyLine_any y _ n c e _ (HY.out.below HBv.out) (by omega)).mono ?_
      rintro eL vb ⟨al, cl, rfl, hbx, hl⟩
      have HLn := Lib.hid hl
      have HBv := Lib.hid (HBv.out.trans (hbx.mono HBv.out.size))
      have HNv := Lib.hid (HNv.out.trans (hbx.mono HNv.out.size))
      clear hl
      have hx9 := (hbx.block X9 l9).trans hx9
      have l9 := Nat.lt_of_lt_of_le l9 hbx.size
      clear hbx
      go_wp2_with fail
      refine tailL_mk HNv.out ?_
      refine tree_one rfl ?_; go_wp2_with fail
      refine (copyState_any f b _ _ n c1 n c2 _ (HF.out.below HBv.out) (HB.out.below HBv.out) (by omega) (by omega)).mono ?_
      rintro eS vc ⟨a5, c5, a6, c6, rfl, hbx, hs1, hs2⟩
      have HSt := Lib.hid (And.intro hs1 hs2)
      have HBv := Lib.hid (HBv.out.trans (hbx.mono HBv.out.size))
      have HNv := Lib.hid (HNv.out.trans (hbx.mono HNv.out.size))
      clear hs1 hs2
      have HLn := Lib.hid (HLn.out.below hbx)
      have hx9 := (hbx.block X9 l9).trans hx9
      have l9 := Nat.lt_of_lt_of_le l9 hbx.size
      clear hbx
      go_wp2_with fail
      refine tailL_mk HNv.out ?_
      refine tree_one rfl ?_; go_wp2_with fail
      refine (step_u y f b (0 : Int) al a5 a6 n cl n c5 n c6 e _ HLn.out HSt.out.1 HSt.out.2 (by omega) (by omega)).mono ?_
      rintro eT vd ⟨hbx, aF, nF, cF, aB, nB, cB, aV, nV, cV, rfl, hr1, hr2, hr3⟩
      have HR := Lib.hid (And.intro hr1 (And.intro hr2 hr3))
      have HBv := Lib.hid (HBv.out.trans (hbx.mono HBv.out.size))
      have HNv := Lib.hid (HNv.out.trans (hbx.mono HNv.out.size))
      clear hr1 hr2 hr3
      have hx9 := (hbx.block X9 l9).trans hx9
      have l9 := Nat.lt_of_lt_of_le l9 hbx.size
      clear hbx
      go_wp2_with fail
      refine tailL_mk HNv.out ?_
      repeat (refine tree_head rfl ?_; (show wpQuiet _ _ _ _ (_ :: _) _; go_big_quiet_step (fail)); refine wpQuiet_nil ?_)
      refine tree_one rfl ?_
      have c90 := cell_of_row _ _ 0 _ _ _ hx9
      have c91 := cell_of_row _ _ 1 _ _ _ hx9
      have f90 := frozen_of_row _ _ 0 _ _ hx9
      have f91 := frozen_of_row _ _ 1 _ _ hx9
      simp only [List.getElem?_toArray, List.getElem?_cons_zero, List.getElem?_cons_succ] at c90 c91
      go_wp2_with fail
      have HN := Lib.hid (show Below w8.heap.size w8 ((vd.setCell ⟨X9, 0, none⟩ (.slice aF nF cF)).setCell ⟨X9, 1, none⟩ (.slice aB nB cB)) from Below.setCell (Below.setCell HNv.out hNX _) hNX _)
      refine tailL_mk HN.out ?_
      repeat (refine tree_head rfl ?_; (show wpQuiet _ _ _ _ (_ :: _) _; go_big_quiet_step (fail)); refine wpQuiet_nil ?_)
      refine tree_done ?_
      go_wp2_with fail
      go_meet
      case rel => exact ⟨X9, aF, nF, cF, aB, nB, cB, aV, nV, cV, rfl, rfl, rfl, by go_simp, by go_simp, by simpa using l9, Lib.hid ⟨ints_stored HR.out.1 hx9 _ _, ints_stored HR.out.2.1 hx9 _ _, ints_stored HR.out.2.2 hx9 _ _⟩, HN⟩
  case rest =>
    obtain ⟨w9, rfl⟩ : ∃ w', w' = wc := ⟨wc, rfl⟩
    obtain ⟨X9, aX, nX, cX, aY, nY, cY, aU, nU, cU, rfl, rfl, rfl, t0, t1, lt, HX, HNc⟩ := hcut
    have hbx := HNc.out
    have hzx := hbx.size
    have q0 : w9.cell? ⟨w.heap.size, 0, none⟩ = some (.slice a n c) := by { rw [cellB hbx _ _ (by first | (simp; done) | (simp; omega) | omega)]; all_goals (first | assumption | go_simp) }; have q1 : w9.cell? ⟨w.heap.size, 1, none⟩ = some (.bool e) := by { rw [cellB hbx _ _ (by first | (simp; done) | (simp; omega) | omega)]; all_goals (first | assumption | go_simp) }; have q2 : w9.cell? ⟨w.heap.size + 1, 0, none⟩ = some (.slice a1 n c1) := by { rw [cellB hbx _ _ (by first | (simp; done) | (simp; omega) | omega)]; all_goals (first | assumption | go_simp) }; have q3 : w9.cell? ⟨w.heap.size + 1, 1, none⟩ = some (.slice a2 n c2) := by { rw [cellB hbx _ _ (by first | (simp; done) | (simp; omega) | omega)]; all_goals (first | assumption | go_simp) }; have l0 : w.heap.size < w9.heap.size := by { omega }; have l1 : w.heap.size + 1 < w9.heap.size := by { omega }
    have HBv := Lib.hid (HBv.out.trans (hbx.mono HBv.out.size))
    clear hbx hzx q0c q1c q2c q3c l0c l1c HNc
    have x0 := t0
    have x1 := t1
    have lx := lt
    clear t0 t1 lt
    have hE := srE_cases (s := 0) (e := e) H0.out (by rfl)
    obtain ⟨E0, hE0⟩ : ∃ E, E = srE y f b 0 e := ⟨_, rfl⟩
    rw [← hE0] at hE ⊢
    have HE0 := Lib.hid hE0
    clear hE0
    have HEC := Lib.hid hE
    clear hE
    go_upto_region 7 with fail
    go_cut [70] from 61 to 70 (fun v70 wx => v70 = .bool false ∧ w9 = wx)
    case first =>
      rcases HEC.out with rfl | rfl
      · go_wp2_with fail
        go_meet
        case rel => exact ⟨rfl, rfl⟩
      · go_wp2_with fail
        go_meet
        case rel => exact ⟨rfl, rfl⟩
    case rest =>
      obtain ⟨rfl, rfl⟩ := hcut
      go_upto_if 72 with fail
      go_cut [12, 13] from 73 to 91 (fun v12 v13 wx => Hid (Below w9.heap.size w9 wx))
      case first =>
        rcases HEC.out with rfl | rfl
        ·
          have hF : srL y f b 0 e (outF y f b 0) = outF y f b 0 := srL_zero HE0.out.symm
          have hB : srL y f b 0 e (outB y f b e) = outB y f b e := srL_zero HE0.out.symm
          have hst := srE_zero HE0.out.symm
          have hlF : (outF y f b 0).length = n := by rw [outF_len _ _ _ _ (by rw [HYL.out]; exact hn0)]; exact HYL.out
          have hlB : (outB y f b e).length = n := by rw [outB_len _ _ _ _ (by rw [HYL.out]; exact hn0)]; exact HYL.out
          rw [hF, hB] at HX
          have e1 := HX.out.1.len
          have e2 := HX.out.2.1.len
          obtain rfl : n = nX := by omega
          obtain rfl : n = nY := by omega
          have HM2 := Lib.hid (show enOf y (outF y f b 0) (outB y f b e) = enUpto y (outF y f b 0) (outB y f b e) n by unfold enOf; rw [if_pos hst, HYL.out])
          have HST := Lib.hid hst
          clear hF hB hst hlF hlB e1 e2
          generalize outF y f b 0 = oF at *
          generalize outB y f b e = oB at *
          go_wp2_with fail
          refine wp_region_laterM (B := w9.heap.size) [(true, 0), (true, 2), (false, 1), (false, 3), (false, 4), (true, 5), (true, 6), (true, 7), (true, 8), (true, 9)] (by kernel_rfl) (by kernel_rfl) ?_; simp only [opsOf, List.filterMap_cons, List.filterMap_nil, List.getElem?_toArray, List.getElem?_cons_zero, List.getElem?_cons_succ, Option.map_some]
          repeat (refine mix_head ?_; (show wpQuiet _ _ _ _ (_ :: _) _; go_big_quiet_step (fail)); refine wpQuiet_nil ?_)
          refine mix_tail ?_; go_wp2_with fail
          refine (copyLine_any y _ n c e _ (HY.out.below HBv.out.drew) (by omega)).mono ?_
          rintro e10 va ⟨ac, cc, rfl, hba, hla⟩
          have HNv := Lib.hid ((Below.refl w9.heap.size w9).drew.trans hba)
          have HBu := Lib.hid (HBv.out.trans (HNv.out.mono HBv.out.size))
          have HLn := Lib.hid hla
          clear hba hla
          go_wp2_with fail
          refine tailL_mk HNv.out ?_
          refine mix_tail ?_; go_wp2_with fail
          refine (copyState_any oF oB _ _ n cX n cY _ (HX.out.1.below HNv.out) (HX.out.2.1.below HNv.out) (by omega) (by omega)).mono ?_
          rintro e11 vb ⟨ad, cd, ae, ce, rfl, hbb, hs1, hs2⟩
          have HLn := Lib.hid (HLn.out.below hbb)
          have HNv := Lib.hid (HNv.out.trans (hbb.mono HNv.out.size))
          have HSt := Lib.hid (And.intro hs1 hs2)
          clear hbb hs1 hs2
          go_wp2_with fail
          refine tailL_mk HNv.out ?_
          refine mix_tail ?_; go_wp2_with fail
          refine (energy_u y oF oB ac ad ae n cc n cd n ce e _ HLn.out HSt.out.1 HSt.out.2 (by omega) (by omega)).mono ?_
          rintro e12 wa ⟨rfl, hbc⟩
          have hbx : Below w9.heap.size w9 wa := HNv.out.trans (hbc.mono HNv.out.size)
          have HNv := Lib.hid hbx
          clear hbc HLn HSt HBu
          rw [HST.out, HM2.out]
          obtain ⟨M2, hM2⟩ : ∃ M, M = enUpto y oF oB n := ⟨_, rfl⟩
          have i5 : decide (M2 < 0) = false := by have := HMP.out; rw [← hM2] at this; simp; omega
          have i6 : decide (M2 > M) = false := by have := HML.out; rw [← hM2] at this; simp; omega
          rw [← hM2]
          clear hM2
          go_wp2_with fail
          refine tailL_mk HNv.out ?_
          repeat (refine mix_head ?_; (show wpQuiet _ _ _ _ (_ :: _) _; go_big_quiet_step (fail)); refine wpQuiet_nil ?_)
          refine mix_nil ?_
          go_wp2_with fail
          go_meet
          case rel => exact HNv
        ·
          go_wp2_with fail
          go_meet
          case rel => exact Lib.hid (Below.refl _ _)
      case rest =>
        obtain ⟨wa, rfl⟩ : ∃ w', w' = wc := ⟨wc, rfl⟩
        have hbx := hcut.out
        clear hcut HEC HE0 HML HMP
        have hzx := hbx.size
        have q0c : wa.cell? ⟨w.heap.size, 0, none⟩ = some (.slice a n c) := by { rw [cellB hbx _ _ (by first | (simp; done) | (simp; omega) | omega)]; all_goals (first | assumption | go_simp) }; have q1c : wa.cell? ⟨w.heap.size, 1, none⟩ = some (.bool e) := by { rw [cellB hbx _ _ (by first | (simp; done) | (simp; omega) | omega)]; all_goals (first | assumption | go_simp) }; have q2c : wa.cell? ⟨w.heap.size + 1, 0, none⟩ = some (.slice a1 n c1) := by { rw [cellB hbx _ _ (by first | (simp; done) | (simp; omega) | omega)]; all_goals (first | assumption | go_simp) }; have q3c : wa.cell? ⟨w.heap.size + 1, 1, none⟩ = some (.slice a2 n c2) := by { rw [cellB hbx _ _ (by first | (simp; done) | (simp; omega) | omega)]; all_goals (first | assumption | go_simp) }; have l0c : w.heap.size < wa.heap.size := by { omega }; have l1c : w.heap.size + 1 < wa.heap.size := by { omega }; have x0c : wa.cell? ⟨X9, 0, none⟩ = some (.slice aX nX cX) := by { rw [cellB hbx _ _ (by first | (simp; done) | (simp; omega) | omega)]; all_goals (first | assumption | go_simp) }; have x1c : wa.cell? ⟨X9, 1, none⟩ = some (.slice aY nY cY) := by { rw [cellB hbx _ _ (by first | (simp; done) | (simp; omega) | omega)]; all_goals (first | assumption | go_simp) }; have lxc : X9 < wa.heap.size := by { omega }
        have HBv := Lib.hid (HBv.out.trans (hbx.mono HBv.out.size))
        have HX := Lib.hid (And.intro (HX.out.1.below hbx) (And.intro (HX.out.2.1.below hbx) (HX.out.2.2.below hbx)))
        clear hbx hzx q0 q1 q2 q3 l0 l1 x0 x1 lx 
        go_wp2_with fail
        go_cut [14, 15, 16] from 92 to 101 (fun v9 v10 v11 wx => ∃ X9 aF nF cF aB nB cB aV nV cV, v9 = .pointer (some ⟨X9, 0, none⟩) ∧ v10 = .slice aV nV cV ∧ v11 = .int .i64 (srE y f b s e) ∧ wx.cell? ⟨X9, 0, none⟩ = some (.slice aF nF cF) ∧ wx.cell? ⟨X9, 1, none⟩ = some (.slice aB nB cB) ∧ X9 < wx.heap.size ∧
              Hid (IntsR wx aF nF (srL y f b s e (outF y f b s)) ∧ IntsR wx aB nB (srL y f b s e (outB y f b e)) ∧ IntsR wx aV nV (srL y f b s e (outV y f b s e))) ∧ Hid (Below wa.heap.size wa wx))
        case first =>
          have HBv := Lib.hid HBv.out.drew
          have HNv := Lib.hid (Below.refl wa.heap.size wa).drew
          refine wp_region_laterT (B := wa.heap.size) (.head 0 (.head 2 (.head 4 (.two 1 (.two 3 (.two 5 (.head 6 (.head 7 (.head 8 (.head 9 (.one 10 (.one 11 (.head 12 (.head 13 .done)))))))) 10 (.one 5 (.head 6 (.head 7 (.head 8 (.head 9 (.one 11 (.head 12 (.head 13 .done))))))))) 10 (.one 3 (.one 5 (.head 6 (.head 7 (.head 8 (.head 9 (.one 11 (.head 12 (.head 13 .done)))))))))) 10 (.one 1 (.one 3 (.one 5 (.head 6 (.head 7 (.head 8 (.head 9 (.one 11 (.head 12 (.head 13 .done)))))))))))))) (by kernel_rfl) (by kernel_rfl) ?_
          repeat (refine tree_head rfl ?_; (show wpQuiet _ _ _ _ (_ :: _) _; go_big_quiet_step (fail)); refine wpQuiet_nil ?_)
          refine tree_two rfl rfl ?_ ?_
          ·
            go_wp2_with fail
            refine (copyLine_any y _ n c e _ (HY.out.below HBv.out) (by omega)).mono ?_
            rintro eL va ⟨al, cl, rfl, hbx, hl⟩
            have HLn := Lib.hid hl
            have HBv := Lib.hid (HBv.out.trans (hbx.mono HBv.out.size))
            have HNv := Lib.hid (HNv.out.trans (hbx.mono HNv.out.size))
            clear hl
            clear hbx
            go_wp2_with fail
            refine tailL_mk HNv.out ?_
            refine tree_two rfl rfl ?_ ?_
            ·
              go_wp2_with fail
              refine (copyState_any f b _ _ n c1 n c2 _ (HF.out.below HBv.out) (HB.out.below HBv.out) (by omega) (by omega)).mono ?_
              rintro eS vb ⟨a5, c5, a6, c6, rfl, hbx, hs1, hs2⟩
              have HSt := Lib.hid (And.intro hs1 hs2)
              have HBv := Lib.hid (HBv.out.trans (hbx.mono HBv.out.size))
              have HNv := Lib.hid (HNv.out.trans (hbx.mono HNv.out.size))
              clear hs1 hs2
              have HLn := Lib.hid (HLn.out.below hbx)
              clear hbx
              go_wp2_with fail
              refine tailL_mk HNv.out ?_
              refine tree_two rfl rfl ?_ ?_
              ·
                go_wp2_with fail
                refine (step_u y f b s al a5 a6 n cl n c5 n c6 e _ HLn.out HSt.out.1 HSt.out.2 (by omega) (by omega)).mono ?_
                rintro eT vc ⟨hbx, aF, nF, cF, aB, nB, cB, aV, nV, cV, rfl, hr1, hr2, hr3⟩
                have HR := Lib.hid (And.intro hr1 (And.intro hr2 hr3))
                have HBv := Lib.hid (HBv.out.trans (hbx.mono HBv.out.size))
                have HNv := Lib.hid (HNv.out.trans (hbx.mono HNv.out.size))
                clear hr1 hr2 hr3
                clear hbx
                go_wp2_with fail
                refine tailL_mk HNv.out ?_
                repeat (refine tree_head rfl ?_; (show wpQuiet _ _ _ _ (_ :: _) _; go_big_quiet_step (fail)); refine wpQuiet_nil ?_)
                refine tree_one rfl ?_
                go_wp2_with fail
                obtain ⟨X9, hX9⟩ : ∃ X, X = vc.heap.size := ⟨_, rfl⟩
                have hNX : wa.heap.size ≤ X9 := by rw [hX9]; exact HNv.out.size
                have hx9 : (vc.alloc (Obj.cells #[Value.slice none 0 0, Value.slice none 0 0] 26)).heap[X9]? = some (.cells #[Value.slice none 0 0, Value.slice none 0 0] 26) := by rw [hX9]; exact heap_alloc_new _ _
                have l9 : X9 < (vc.alloc (Obj.cells #[Value.slice none 0 0, Value.slice none 0 0] 26)).heap.size := by rw [hX9]; simp
                have hbx : Below vc.heap.size vc (vc.alloc (Obj.cells #[Value.slice none 0 0, Value.slice none 0 0] 26)) := by (repeat' (first | (with_reducible exact Below.refl _ _) | (with_reducible assumption) | (with_reducible refine Below.drewN ?_ _) | (with_reducible refine Below.alloc ?_ ?_ _) | (with_reducible refine Below.drew ?_) | (with_reducible refine Below.setCell ?_ ?_ _) | (with_reducible refine Below.step (by assumption) ?_ ?_) | (with_reducible exact And.left (by assumption)) | go_size))
                try simp only [← hX9]
                generalize vc.alloc (Obj.cells #[Value.slice none 0 0, Value.slice none 0 0] 26) = vd at *
                have HBv := Lib.hid (HBv.out.trans (hbx.mono HBv.out.size))
                have HNv := Lib.hid (HNv.out.trans (hbx.mono HNv.out.size))
                clear hX9
                have HR := Lib.hid (And.intro (HR.out.1.below hbx) (And.intro (HR.out.2.1.below hbx) (HR.out.2.2.below hbx)))
                clear hbx
                refine tailL_mk HNv.out ?_
                refine tree_one rfl ?_
                have c90 := cell_of_row _ _ 0 _ _ _ hx9
                have c91 := cell_of_row _ _ 1 _ _ _ hx9
                have f90 := frozen_of_row _ _ 0 _ _ hx9
                have f91 := frozen_of_row _ _ 1 _ _ hx9
                simp only [List.getElem?_toArray, List.getElem?_cons_zero, List.getElem?_cons_succ] at c90 c91
                go_wp2_with fail
                have HN := Lib.hid (show Below wa.heap.size wa ((vd.setCell ⟨X9, 0, none⟩ (.slice aF nF cF)).setCell ⟨X9, 1, none⟩ (.slice aB nB cB)) from Below.setCell (Below.setCell HNv.out hNX _) hNX _)
                refine tailL_mk HN.out ?_
                repeat (refine tree_head rfl ?_; (show wpQuiet _ _ _ _ (_ :: _) _; go_big_quiet_step (fail)); refine wpQuiet_nil ?_)
                refine tree_done ?_
                go_wp2_with fail
                go_meet
                case rel => exact ⟨X9, aF, nF, cF, aB, nB, cB, aV, nV, cV, rfl, rfl, rfl, by go_simp, by go_simp, by simpa using l9, Lib.hid ⟨ints_stored HR.out.1 hx9 _ _, ints_stored HR.out.2.1 hx9 _ _, ints_stored HR.out.2.2 hx9 _ _⟩, HN⟩
              ·
                go_wp2_with fail
                obtain ⟨X9, hX9⟩ : ∃ X, X = vb.heap.size := ⟨_, rfl⟩
                have hNX : wa.heap.size ≤ X9 := by rw [hX9]; exact HNv.out.size
                have hx9 : (vb.alloc (Obj.cells #[Value.slice none 0 0, Value.slice none 0 0] 26)).heap[X9]? = some (.cells #[Value.slice none 0 0, Value.slice none 0 0] 26) := by rw [hX9]; exact heap_alloc_new _ _
                have l9 : X9 < (vb.alloc (Obj.cells #[Value.slice none 0 0, Value.slice none 0 0] 26)).heap.size := by rw [hX9]; simp
                have hbx : Below vb.heap.size vb (vb.alloc (Obj.cells #[Value.slice none 0 0, Value.slice none 0 0] 26)) := by (repeat' (first | (with_reducible exact Below.refl _ _) | (with_reducible assumption) | (with_reducible refine Below.drewN ?_ _) | (with_reducible refine Below.alloc ?_ ?_ _) | (with_reducible refine Below.drew ?_) | (with_reducible refine Below.setCell ?_ ?_ _) | (with_reducible refine Below.step (by assumption) ?_ ?_) | (with_reducible exact And.left (by assumption)) | go_size))
                try simp only [← hX9]
                generalize vb.alloc (Obj.cells #[Value.slice none 0 0, Value.slice none 0 0] 26) = vc at *
                have HBv := Lib.hid (HBv.out.trans (hbx.mono HBv.out.size))
                have HNv := Lib.hid (HNv.out.trans (hbx.mono HNv.out.size))
                clear hX9
                have HLn := Lib.hid (HLn.out.below hbx)
                have HSt := Lib.hid (And.intro (HSt.out.1.below hbx) (HSt.out.2.below hbx))
                clear hbx
                refine tailL_mk HNv.out ?_
                refine tree_one rfl ?_; go_wp2_with fail
                refine (step_u y f b s al a5 a6 n cl n c5 n c6 e _ HLn.out HSt.out.1 HSt.out.2 (by omega) (by omega)).mono ?_
                rintro eT vd ⟨hbx, aF, nF, cF, aB, nB, cB, aV, nV, cV, rfl, hr1, hr2, hr3⟩
                have HR := Lib.hid (And.intro hr1 (And.intro hr2 hr3))
                have HBv := Lib.hid (HBv.out.trans (hbx.mono HBv.out.size))
                have HNv := Lib.hid (HNv.out.trans (hbx.mono HNv.out.size))
                clear hr1 hr2 hr3
                have hx9 := (hbx.block X9 l9).trans hx9
                have l9 := Nat.lt_of_lt_of_le l9 hbx.size
                clear hbx
                go_wp2_with fail
                refine tailL_mk HNv.out ?_
                repeat (refine tree_head rfl ?_; (show wpQuiet _ _ _ _ (_ :: _) _; go_big_quiet_step (fail)); refine wpQuiet_nil ?_)
                refine tree_one rfl ?_
                have c90 := cell_of_row _ _ 0 _ _ _ hx9
                have c91 := cell_of_row _ _ 1 _ _ _ hx9
                have f90 := frozen_of_row _ _ 0 _ _ hx9
                have f91 := frozen_of_row _ _ 1 _ _ hx9
                simp only [List.getElem?_toArray, List.getElem?_cons_zero, List.getElem?_cons_succ] at c90 c91
                go_wp2_with fail
                have HN := Lib.hid (show Below wa.heap.size wa ((vd.setCell ⟨X9, 0, none⟩ (.slice aF nF cF)).setCell ⟨X9, 1, none⟩ (.slice aB nB cB)) from Below.setCell (Below.setCell HNv.out hNX _) hNX _)
                refine tailL_mk HN.out ?_
                repeat (refine tree_head rfl ?_; (show wpQuiet _ _ _ _ (_ :: _) _; go_big_quiet_step (fail)); refine wpQuiet_nil ?_)
                refine tree_done ?_
                go_wp2_with fail
                go_meet
                case rel => exact ⟨X9, aF, nF, cF, aB, nB, cB, aV, nV, cV, rfl, rfl, rfl, by go_simp, by go_simp, by simpa using l9, Lib.hid ⟨ints_stored HR.out.1 hx9 _ _, ints_stored HR.out.2.1 hx9 _ _, ints_stored HR.out.2.2 hx9 _ _⟩, HN⟩
            ·
              go_wp2_with fail
              obtain ⟨X9, hX9⟩ : ∃ X, X = va.heap.size := ⟨_, rfl⟩
              have hNX : wa.heap.size ≤ X9 := by rw [hX9]; exact HNv.out.size
              have hx9 : (va.alloc (Obj.cells #[Value.slice none 0 0, Value.slice none 0 0] 26)).heap[X9]? = some (.cells #[Value.slice none 0 0, Value.slice none 0 0] 26) := by rw [hX9]; exact heap_alloc_new _ _
              have l9 : X9 < (va.alloc (Obj.cells #[Value.slice none 0 0, Value.slice none 0 0] 26)).heap.size := by rw [hX9]; simp
              have hbx : Below va.heap.size va (va.alloc (Obj.cells #[Value.slice none 0 0, Value.slice none 0 0] 26)) := by (repeat' (first | (with_reducible exact Below.refl _ _) | (with_reducible assumption) | (with_reducible refine Below.drewN ?_ _) | (with_reducible refine Below.alloc ?_ ?_ _) | (with_reducible refine Below.drew ?_) | (with_reducible refine Below.setCell ?_ ?_ _) | (with_reducible refine Below.step (by assumption) ?_ ?_) | (with_reducible exact And.left (by assumption)) | go_size))
              try simp only [← hX9]
              generalize va.alloc (Obj.cells #[Value.slice none 0 0, Value.slice none 0 0] 26) = vb at *
              have HBv := Lib.hid (HBv.out.trans (hbx.mono HBv.out.size))
              have HNv := Lib.hid (HNv.out.trans (hbx.mono HNv.out.size))
              clear hX9
              have HLn := Lib.hid (HLn.out.below hbx)
              clear hbx
              refine tailL_mk HNv.out ?_
              refine tree_one rfl ?_; go_wp2_with fail
              refine (copyState_any f b _ _ n c1 n c2 _ (HF.out.below HBv.out) (HB.out.below HBv.out) (by omega) (by omega)).mono ?_
              rintro eS vc ⟨a5, c5, a6, c6, rfl, hbx, hs1, hs2⟩
              have HSt := Lib.hid (And.intro hs1 hs2)
              have HBv := Lib.hid (HBv.out.trans (hbx.mono HBv.out.size))
              have HNv := Lib.hid (HNv.out.trans (hbx.mono HNv.out.size))
              clear hs1 hs2
              have HLn := Lib.hid (HLn.out.below hbx)
              have hx9 := (hbx.block X9 l9).trans hx9
              have l9 := Nat.lt_of_lt_of_le l9 hbx.size
              clear hbx
              go_wp2_with fail
              refine tailL_mk HNv.out ?_
              refine tree_one rfl ?_; go_wp2_with fail
              refine (step_u y f b s al a5 a6 n cl n c5 n c6 e _ HLn.out HSt.out.1 HSt.out.2 (by omega) (by omega)).mono ?_
              rintro eT vd ⟨hbx, aF, nF, cF, aB, nB, cB, aV, nV, cV, rfl, hr1, hr2, hr3⟩
              have HR := Lib.hid (And.intro hr1 (And.intro hr2 hr3))
              have HBv := Lib.hid (HBv.out.trans (hbx.mono HBv.out.size))
              have HNv := Lib.hid (HNv.out.trans (hbx.mono HNv.out.size))
              clear hr1 hr2 hr3
              have hx9 := (hbx.block X9 l9).trans hx9
              have l9 := Nat.lt_of_lt_of_le l9 hbx.size
              clear hbx
              go_wp2_with fail
              refine tailL_mk HNv.out ?_
              repeat (refine tree_head rfl ?_; (show wpQuiet _ _ _ _ (_ :: _) _; go_big_quiet_step (fail)); refine wpQuiet_nil ?_)
              refine tree_one rfl ?_
              have c90 := cell_of_row _ _ 0 _ _ _ hx9
              have c91 := cell_of_row _ _ 1 _ _ _ hx9
              have f90 := frozen_of_row _ _ 0 _ _ hx9
              have f91 := frozen_of_row _ _ 1 _ _ hx9
              simp only [List.getElem?_toArray, List.getElem?_cons_zero, List.getElem?_cons_succ] at c90 c91
              go_wp2_with fail
              have HN := Lib.hid (show Below wa.heap.size wa ((vd.setCell ⟨X9, 0, none⟩ (.slice aF nF cF)).setCell ⟨X9, 1, none⟩ (.slice aB nB cB)) from Below.setCell (Below.setCell HNv.out hNX _) hNX _)
              refine tailL_mk HN.out ?_
              repeat (refine tree_head rfl ?_; (show wpQuiet _ _ _ _ (_ :: _) _; go_big_quiet_step (fail)); refine wpQuiet_nil ?_)
              refine tree_done ?_
              go_wp2_with fail
              go_meet
              case rel => exact ⟨X9, aF, nF, cF, aB, nB, cB, aV, nV, cV, rfl, rfl, rfl, by go_simp, by go_simp, by simpa using l9, Lib.hid ⟨ints_stored HR.out.1 hx9 _ _, ints_stored HR.out.2.1 hx9 _ _, ints_stored HR.out.2.2 hx9 _ _⟩, HN⟩
          ·
            go_wp2_with fail
            obtain ⟨X9, hX9⟩ : ∃ X, X = wa.heap.size := ⟨_, rfl⟩
            have hNX : wa.heap.size ≤ X9 := by omega
            have hx9 : (wa.alloc (Obj.cells #[Value.slice none 0 0, Value.slice none 0 0] 26)).drew.heap[X9]? = some (.cells #[Value.slice none 0 0, Value.slice none 0 0] 26) := by rw [hX9]; exact heap_alloc_new _ _
            have l9 : X9 < (wa.alloc (Obj.cells #[Value.slice none 0 0, Value.slice none 0 0] 26)).drew.heap.size := by rw [hX9]; simp
            have hbx : Below wa.drew.heap.size wa.drew (wa.alloc (Obj.cells #[Value.slice none 0 0, Value.slice none 0 0] 26)).drew := (have h0 : Below wa.heap.size wa (wa.alloc (Obj.cells #[Value.slice none 0 0, Value.slice none 0 0] 26)).drew := (by (repeat' (first | (with_reducible exact Below.refl _ _) | (with_reducible assumption) | (with_reducible refine Below.drewN ?_ _) | (with_reducible refine Below.alloc ?_ ?_ _) | (with_reducible refine Below.drew ?_) | (with_reducible refine Below.setCell ?_ ?_ _) | (with_reducible refine Below.step (by assumption) ?_ ?_) | (with_reducible exact And.left (by assumption)) | go_size))); ⟨h0.os, h0.tape, h0.output, h0.size, h0.block⟩)
            try simp only [← hX9]
            generalize (wa.alloc (Obj.cells #[Value.slice none 0 0, Value.slice none 0 0] 26)).drew = va at *
            have HBv := Lib.hid (HBv.out.trans (hbx.mono HBv.out.size))
            have HNv := Lib.hid (HNv.out.trans (hbx.mono HNv.out.size))
            clear hX9 hbx
            refine tailL_mk HNv.out ?_
            refine tree_one rfl ?_; go_wp2_with fail
            refine (copyLine_any y _ n c e _ (HY.out.below HBv.out) (by omega)).mono ?_
            rintro eL vb ⟨al, cl, rfl, hbx, hl⟩
            have HLn := Lib.hid hl
            have HBv := Lib.hid (HBv.out.trans (hbx.mono HBv.out.size))
            have HNv := Lib.hid (HNv.out.trans (hbx.mono HNv.out.size))
            clear hl
            have hx9 := (hbx.block X9 l9).trans hx9
            have l9 := Nat.lt_of_lt_of_le l9 hbx.size
            clear hbx
            go_wp2_with fail
            refine tailL_mk HNv.out ?_
            refine tree_one rfl ?_; go_wp2_with fail
            refine (copyState_any f b _ _ n c1 n c2 _ (HF.out.below HBv.out) (HB.out.below HBv.out) (by omega) (by omega)).mono ?_
            rintro eS vc ⟨a5, c5, a6, c6, rfl, hbx, hs1, hs2⟩
            have HSt := Lib.hid (And.intro hs1 hs2)
            have HBv := Lib.hid (HBv.out.trans (hbx.mono HBv.out.size))
            have HNv := Lib.hid (HNv.out.trans (hbx.mono HNv.out.size))
            clear hs1 hs2
            have HLn := Lib.hid (HLn.out.below hbx)
            have hx9 := (hbx.block X9 l9).trans hx9
            have l9 := Nat.lt_of_lt_of_le l9 hbx.size
            clear hbx
            go_wp2_with fail
            refine tailL_mk HNv.out ?_
            refine tree_one rfl ?_; go_wp2_with fail
            refine (step_u y f b s al a5 a6 n cl n c5 n c6 e _ HLn.out HSt.out.1 HSt.out.2 (by omega) (by omega)).mono ?_
            rintro eT vd ⟨hbx, aF, nF, cF, aB, nB, cB, aV, nV, cV, rfl, hr1, hr2, hr3⟩
            have HR := Lib.hid (And.intro hr1 (And.intro hr2 hr3))
            have HBv := Lib.hid (HBv.out.trans (hbx.mono HBv.out.size))
            have HNv := Lib.hid (HNv.out.trans (hbx.mono HNv.out.size))
            clear hr1 hr2 hr3
            have hx9 := (hbx.block X9 l9).trans hx9
            have l9 := Nat.lt_of_lt_of_le l9 hbx.size
            clear hbx
            go_wp2_with fail
            refine tailL_mk HNv.out ?_
            repeat (refine tree_head rfl ?_; (show wpQuiet _ _ _ _ (_ :: _) _; go_big_quiet_step (fail)); refine wpQuiet_nil ?_)
            refine tree_one rfl ?_
            have c90 := cell_of_row _ _ 0 _ _ _ hx9
            have c91 := cell_of_row _ _ 1 _ _ _ hx9
            have f90 := frozen_of_row _ _ 0 _ _ hx9
            have f91 := frozen_of_row _ _ 1 _ _ hx9
            simp only [List.getElem?_toArray, List.getElem?_cons_zero, List.getElem?_cons_succ] at c90 c91
            go_wp2_with fail
            have HN := Lib.hid (show Below wa.heap.size wa ((vd.setCell ⟨X9, 0, none⟩ (.slice aF nF cF)).setCell ⟨X9, 1, none⟩ (.slice aB nB cB)) from Below.setCell (Below.setCell HNv.out hNX _) hNX _)
            refine tailL_mk HN.out ?_
            repeat (refine tree_head rfl ?_; (show wpQuiet _ _ _ _ (_ :: _) _; go_big_quiet_step (fail)); refine wpQuiet_nil ?_)
            refine tree_done ?_
            go_wp2_with fail
            go_meet
            case rel => exact ⟨X9, aF, nF, cF, aB, nB, cB, aV, nV, cV, rfl, rfl, rfl, by go_simp, by go_simp, by simpa using l9, Lib.hid ⟨ints_stored HR.out.1 hx9 _ _, ints_stored HR.out.2.1 hx9 _ _, ints_stored HR.out.2.2 hx9 _ _⟩, HN⟩
        case rest =>
          obtain ⟨wb, rfl⟩ : ∃ w', w' = wc := ⟨wc, rfl⟩
          obtain ⟨X14, aF, nF, cF, aB, nB, cB, aV, nV, cV, rfl, rfl, rfl, t0, t1, lt, HR, HNc⟩ := hcut
          have hbx := HNc.out
          have hzx := hbx.size
          have q0 : wb.cell? ⟨w.heap.size, 0, none⟩ = some (.slice a n c) := by { rw [cellB hbx _ _ (by first | (simp; done) | (simp; omega) | omega)]; all_goals (first | assumption | go_simp) }; have q1 : wb.cell? ⟨w.heap.size, 1, none⟩ = some (.bool e) := by { rw [cellB hbx _ _ (by first | (simp; done) | (simp; omega) | omega)]; all_goals (first | assumption | go_simp) }; have q2 : wb.cell? ⟨w.heap.size + 1, 0, none⟩ = some (.slice a1 n c1) := by { rw [cellB hbx _ _ (by first | (simp; done) | (simp; omega) | omega)]; all_goals (first | assumption | go_simp) }; have q3 : wb.cell? ⟨w.heap.size + 1, 1, none⟩ = some (.slice a2 n c2) := by { rw [cellB hbx _ _ (by first | (simp; done) | (simp; omega) | omega)]; all_goals (first | assumption | go_simp) }; have l0 : w.heap.size < wb.heap.size := by { omega }; have l1 : w.heap.size + 1 < wb.heap.size := by { omega }; have x0 : wb.cell? ⟨X9, 0, none⟩ = some (.slice aX nX cX) := by { rw [cellB hbx _ _ (by first | (simp; done) | (simp; omega) | omega)]; all_goals (first | assumption | go_simp) }; have x1 : wb.cell? ⟨X9, 1, none⟩ = some (.slice aY nY cY) := by { rw [cellB hbx _ _ (by first | (simp; done) | (simp; omega) | omega)]; all_goals (first | assumption | go_simp) }; have lx : X9 < wb.heap.size := by { omega }
          have HBv := Lib.hid (HBv.out.trans (hbx.mono HBv.out.size))
          have HX := Lib.hid (And.intro (HX.out.1.below hbx) (And.intro (HX.out.2.1.below hbx) (HX.out.2.2.below hbx)))
          clear hbx hzx q0c q1c q2c q3c l0c l1c x0c x1c lxc HNc
          clear x0 x1 lx HX
          have y0 := t0
          have y1 := t1
          have ly := lt
          clear t0 t1 lt
          go_wp2_with fail
          go_cut [17, 18, 19] from 102 to 112 (fun v9 v10 v11 wx => ∃ X9 aF nF cF aB nB cB aV nV cV, v9 = .pointer (some ⟨X9, 0, none⟩) ∧ v10 = .slice aV nV cV ∧ v11 = .int .i64 (srE y (ng f) (ng b) (-s) e) ∧ wx.cell? ⟨X9, 0, none⟩ = some (.slice aF nF cF) ∧ wx.cell? ⟨X9, 1, none⟩ = some (.slice aB nB cB) ∧ X9 < wx.heap.size ∧
                Hid (IntsR wx aF nF (srL y (ng f) (ng b) (-s) e (outF y (ng f) (ng b) (-s))) ∧ IntsR wx aB nB (srL y (ng f) (ng b) (-s) e (outB y (ng f) (ng b) e)) ∧ IntsR wx aV nV (srL y (ng f) (ng b) (-s) e (outV y (ng f) (ng b) (-s) e))) ∧ Hid (Below wb.heap.size wb wx))
          case first =>
            have HBv := Lib.hid HBv.out.drew
            have HNv := Lib.hid (Below.refl wb.heap.size wb).drew
            refine wp_region_laterT (B := wb.heap.size) (.head 0 (.head 2 (.head 4 (.head 5 (.two 1 (.two 3 (.two 6 (.head 7 (.head 8 (.head 9 (.head 10 (.one 11 (.one 12 (.head 13 (.head 14 .done)))))))) 11 (.one 6 (.head 7 (.head 8 (.head 9 (.head 10 (.one 12 (.head 13 (.head 14 .done))))))))) 11 (.one 3 (.one 6 (.head 7 (.head 8 (.head 9 (.head 10 (.one 12 (.head 13 (.head 14 .done)))))))))) 11 (.one 1 (.one 3 (.one 6 (.head 7 (.head 8 (.head 9 (.head 10 (.one 12 (.head 13 (.head 14 .done))))))))))))))) (by kernel_rfl) (by kernel_rfl) ?_
            repeat (refine tree_head rfl ?_; (show wpQuiet _ _ _ _ (_ :: _) _; go_big_quiet_step (fail)); refine wpQuiet_nil ?_)
            refine tree_two rfl rfl ?_ ?_
            ·
              go_wp2_with fail
              refine (copyLine_any y _ n c e _ (HY.out.below HBv.out) (by omega)).mono ?_
              rintro eL va ⟨al, cl, rfl, hbx, hl⟩
              have HLn := Lib.hid hl
              have HBv := Lib.hid (HBv.out.trans (hbx.mono HBv.out.size))
              have HNv := Lib.hid (HNv.out.trans (hbx.mono HNv.out.size))
              clear hl
              clear hbx
              go_wp2_with fail
              refine tailL_mk HNv.out ?_
              refine tree_two rfl rfl ?_ ?_
              ·
                go_wp2_with fail
                refine (opposite_any f b _ _ n c1 n c2 _ (HF.out.below HBv.out) (HB.out.below HBv.out) (by omega) (by omega) HFB.out.1 HFB.out.2).mono ?_
                rintro eS vb ⟨a5, c5, a6, c6, rfl, hbx, hs1, hs2⟩
                have HSt := Lib.hid (And.intro hs1 hs2)
                have HBv := Lib.hid (HBv.out.trans (hbx.mono HBv.out.size))
                have HNv := Lib.hid (HNv.out.trans (hbx.mono HNv.out.size))
                clear hs1 hs2
                have HLn := Lib.hid (HLn.out.below hbx)
                clear hbx
                go_wp2_with fail
                refine tailL_mk HNv.out ?_
                refine tree_two rfl rfl ?_ ?_
                ·
                  go_wp2_with fail
                  refine (step_u y (ng f) (ng b) (-s) al a5 a6 n cl n c5 n c6 e _ HLn.out HSt.out.1 HSt.out.2 (by omega) (by omega)).mono ?_
                  rintro eT vc ⟨hbx, aF, nF, cF, aB, nB, cB, aV, nV, cV, rfl, hr1, hr2, hr3⟩
                  have HR := Lib.hid (And.intro hr1 (And.intro hr2 hr3))
                  have HBv := Lib.hid (HBv.out.trans (hbx.mono HBv.out.size))
                  have HNv := Lib.hid (HNv.out.trans (hbx.mono HNv.out.size))
                  clear hr1 hr2 hr3
                  clear hbx
                  go_wp2_with fail
                  refine tailL_mk HNv.out ?_
                  repeat (refine tree_head rfl ?_; (show wpQuiet _ _ _ _ (_ :: _) _; go_big_quiet_step (fail)); refine wpQuiet_nil ?_)
                  refine tree_one rfl ?_
                  go_wp2_with fail
                  obtain ⟨X9, hX9⟩ : ∃ X, X = vc.heap.size := ⟨_, rfl⟩
                  have hNX : wb.heap.size ≤ X9 := by rw [hX9]; exact HNv.out.size
                  have hx9 : (vc.alloc (Obj.cells #[Value.slice none 0 0, Value.slice none 0 0] 26)).heap[X9]? = some (.cells #[Value.slice none 0 0, Value.slice none 0 0] 26) := by rw [hX9]; exact heap_alloc_new _ _
                  have l9 : X9 < (vc.alloc (Obj.cells #[Value.slice none 0 0, Value.slice none 0 0] 26)).heap.size := by rw [hX9]; simp
                  have hbx : Below vc.heap.size vc (vc.alloc (Obj.cells #[Value.slice none 0 0, Value.slice none 0 0] 26)) := by (repeat' (first | (with_reducible exact Below.refl _ _) | (with_reducible assumption) | (with_reducible refine Below.drewN ?_ _) | (with_reducible refine Below.alloc ?_ ?_ _) | (with_reducible refine Below.drew ?_) | (with_reducible refine Below.setCell ?_ ?_ _) | (with_reducible refine Below.step (by assumption) ?_ ?_) | (with_reducible exact And.left (by assumption)) | go_size))
                  try simp only [← hX9]
                  generalize vc.alloc (Obj.cells #[Value.slice none 0 0, Value.slice none 0 0] 26) = vd at *
                  have HBv := Lib.hid (HBv.out.trans (hbx.mono HBv.out.size))
                  have HNv := Lib.hid (HNv.out.trans (hbx.mono HNv.out.size))
                  clear hX9
                  have HR := Lib.hid (And.intro (HR.out.1.below hbx) (And.intro (HR.out.2.1.below hbx) (HR.out.2.2.below hbx)))
                  clear hbx
                  refine tailL_mk HNv.out ?_
                  refine tree_one rfl ?_
                  have c90 := cell_of_row _ _ 0 _ _ _ hx9
                  have c91 := cell_of_row _ _ 1 _ _ _ hx9
                  have f90 := frozen_of_row _ _ 0 _ _ hx9
                  have f91 := frozen_of_row _ _ 1 _ _ hx9
                  simp only [List.getElem?_toArray, List.getElem?_cons_zero, List.getElem?_cons_succ] at c90 c91
                  go_wp2_with fail
                  have HN := Lib.hid (show Below wb.heap.size wb ((vd.setCell ⟨X9, 0, none⟩ (.slice aF nF cF)).setCell ⟨X9, 1, none⟩ (.slice aB nB cB)) from Below.setCell (Below.setCell HNv.out hNX _) hNX _)
                  refine tailL_mk HN.out ?_
                  repeat (refine tree_head rfl ?_; (show wpQuiet _ _ _ _ (_ :: _) _; go_big_quiet_step (fail)); refine wpQuiet_nil ?_)
                  refine tree_done ?_
                  go_wp2_with fail
                  go_meet
                  case rel => exact ⟨X9, aF, nF, cF, aB, nB, cB, aV, nV, cV, rfl, rfl, rfl, by go_simp, by go_simp, by simpa using l9, Lib.hid ⟨ints_stored HR.out.1 hx9 _ _, ints_stored HR.out.2.1 hx9 _ _, ints_stored HR.out.2.2 hx9 _ _⟩, HN⟩
                ·
                  go_wp2_with fail
                  obtain ⟨X9, hX9⟩ : ∃ X, X = vb.heap.size := ⟨_, rfl⟩
                  have hNX : wb.heap.size ≤ X9 := by rw [hX9]; exact HNv.out.size
                  have hx9 : (vb.alloc (Obj.cells #[Value.slice none 0 0, Value.slice none 0 0] 26)).heap[X9]? = some (.cells #[Value.slice none 0 0, Value.slice none 0 0] 26) := by rw [hX9]; exact heap_alloc_new _ _
                  have l9 : X9 < (vb.alloc (Obj.cells #[Value.slice none 0 0, Value.slice none 0 0] 26)).heap.size := by rw [hX9]; simp
                  have hbx : Below vb.heap.size vb (vb.alloc (Obj.cells #[Value.slice none 0 0, Value.slice none 0 0] 26)) := by (repeat' (first | (with_reducible exact Below.refl _ _) | (with_reducible assumption) | (with_reducible refine Below.drewN ?_ _) | (with_reducible refine Below.alloc ?_ ?_ _) | (with_reducible refine Below.drew ?_) | (with_reducible refine Below.setCell ?_ ?_ _) | (with_reducible refine Below.step (by assumption) ?_ ?_) | (with_reducible exact And.left (by assumption)) | go_size))
                  try simp only [← hX9]
                  generalize vb.alloc (Obj.cells #[Value.slice none 0 0, Value.slice none 0 0] 26) = vc at *
                  have HBv := Lib.hid (HBv.out.trans (hbx.mono HBv.out.size))
                  have HNv := Lib.hid (HNv.out.trans (hbx.mono HNv.out.size))
                  clear hX9
                  have HLn := Lib.hid (HLn.out.below hbx)
                  have HSt := Lib.hid (And.intro (HSt.out.1.below hbx) (HSt.out.2.below hbx))
                  clear hbx
                  refine tailL_mk HNv.out ?_
                  refine tree_one rfl ?_; go_wp2_with fail
                  refine (step_u y (ng f) (ng b) (-s) al a5 a6 n cl n c5 n c6 e _ HLn.out HSt.out.1 HSt.out.2 (by omega) (by omega)).mono ?_
                  rintro eT vd ⟨hbx, aF, nF, cF, aB, nB, cB, aV, nV, cV, rfl, hr1, hr2, hr3⟩
                  have HR := Lib.hid (And.intro hr1 (And.intro hr2 hr3))
                  have HBv := Lib.hid (HBv.out.trans (hbx.mono HBv.out.size))
                  have HNv := Lib.hid (HNv.out.trans (hbx.mono HNv.out.size))
                  clear hr1 hr2 hr3
                  have hx9 := (hbx.block X9 l9).trans hx9
                  have l9 := Nat.lt_of_lt_of_le l9 hbx.size
                  clear hbx
                  go_wp2_with fail
                  refine tailL_mk HNv.out ?_
                  repeat (refine tree_head rfl ?_; (show wpQuiet _ _ _ _ (_ :: _) _; go_big_quiet_step (fail)); refine wpQuiet_nil ?_)
                  refine tree_one rfl ?_
                  have c90 := cell_of_row _ _ 0 _ _ _ hx9
                  have c91 := cell_of_row _ _ 1 _ _ _ hx9
                  have f90 := frozen_of_row _ _ 0 _ _ hx9
                  have f91 := frozen_of_row _ _ 1 _ _ hx9
                  simp only [List.getElem?_toArray, List.getElem?_cons_zero, List.getElem?_cons_succ] at c90 c91
                  go_wp2_with fail
                  have HN := Lib.hid (show Below wb.heap.size wb ((vd.setCell ⟨X9, 0, none⟩ (.slice aF nF cF)).setCell ⟨X9, 1, none⟩ (.slice aB nB cB)) from Below.setCell (Below.setCell HNv.out hNX _) hNX _)
                  refine tailL_mk HN.out ?_
                  repeat (refine tree_head rfl ?_; (show wpQuiet _ _ _ _ (_ :: _) _; go_big_quiet_step (fail)); refine wpQuiet_nil ?_)
                  refine tree_done ?_
                  go_wp2_with fail
                  go_meet
                  case rel => exact ⟨X9, aF, nF, cF, aB, nB, cB, aV, nV, cV, rfl, rfl, rfl, by go_simp, by go_simp, by simpa using l9, Lib.hid ⟨ints_stored HR.out.1 hx9 _ _, ints_stored HR.out.2.1 hx9 _ _, ints_stored HR.out.2.2 hx9 _ _⟩, HN⟩
              ·
                go_wp2_with fail
                obtain ⟨X9, hX9⟩ : ∃ X, X = va.heap.size := ⟨_, rfl⟩
                have hNX : wb.heap.size ≤ X9 := by rw [hX9]; exact HNv.out.size
                have hx9 : (va.alloc (Obj.cells #[Value.slice none 0 0, Value.slice none 0 0] 26)).heap[X9]? = some (.cells #[Value.slice none 0 0, Value.slice none 0 0] 26) := by rw [hX9]; exact heap_alloc_new _ _
                have l9 : X9 < (va.alloc (Obj.cells #[Value.slice none 0 0, Value.slice none 0 0] 26)).heap.size := by rw [hX9]; simp
                have hbx : Below va.heap.size va (va.alloc (Obj.cells #[Value.slice none 0 0, Value.slice none 0 0] 26)) := by (repeat' (first | (with_reducible exact Below.refl _ _) | (with_reducible assumption) | (with_reducible refine Below.drewN ?_ _) | (with_reducible refine Below.alloc ?_ ?_ _) | (with_reducible refine Below.drew ?_) | (with_reducible refine Below.setCell ?_ ?_ _) | (with_reducible refine Below.step (by assumption) ?_ ?_) | (with_reducible exact And.left (by assumption)) | go_size))
                try simp only [← hX9]
                generalize va.alloc (Obj.cells #[Value.slice none 0 0, Value.slice none 0 0] 26) = vb at *
                have HBv := Lib.hid (HBv.out.trans (hbx.mono HBv.out.size))
                have HNv := Lib.hid (HNv.out.trans (hbx.mono HNv.out.size))
                clear hX9
                have HLn := Lib.hid (HLn.out.below hbx)
                clear hbx
                refine tailL_mk HNv.out ?_
                refine tree_one rfl ?_; go_wp2_with fail
                refine (opposite_any f b _ _ n c1 n c2 _ (HF.out.below HBv.out) (HB.out.below HBv.out) (by omega) (by omega) HFB.out.1 HFB.out.2).mono ?_
                rintro eS vc ⟨a5, c5, a6, c6, rfl, hbx, hs1, hs2⟩
                have HSt := Lib.hid (And.intro hs1 hs2)
                have HBv := Lib.hid (HBv.out.trans (hbx.mono HBv.out.size))
                have HNv := Lib.hid (HNv.out.trans (hbx.mono HNv.out.size))
                clear hs1 hs2
                have HLn := Lib.hid (HLn.out.below hbx)
                have hx9 := (hbx.block X9 l9).trans hx9
                have l9 := Nat.lt_of_lt_of_le l9 hbx.size
                clear hbx
                go_wp2_with fail
                refine tailL_mk HNv.out ?_
                refine tree_one rfl ?_; go_wp2_with fail
                refine (step_u y (ng f) (ng b) (-s) al a5 a6 n cl n c5 n c6 e _ HLn.out HSt.out.1 HSt.out.2 (by omega) (by omega)).mono ?_
                rintro eT vd ⟨hbx, aF, nF, cF, aB, nB, cB, aV, nV, cV, rfl, hr1, hr2, hr3⟩
                have HR := Lib.hid (And.intro hr1 (And.intro hr2 hr3))
                have HBv := Lib.hid (HBv.out.trans (hbx.mono HBv.out.size))
                have HNv := Lib.hid (HNv.out.trans (hbx.mono HNv.out.size))
                clear hr1 hr2 hr3
                have hx9 := (hbx.block X9 l9).trans hx9
                have l9 := Nat.lt_of_lt_of_le l9 hbx.size
                clear hbx
                go_wp2_with fail
                refine tailL_mk HNv.out ?_
                repeat (refine tree_head rfl ?_; (show wpQuiet _ _ _ _ (_ :: _) _; go_big_quiet_step (fail)); refine wpQuiet_nil ?_)
                refine tree_one rfl ?_
                have c90 := cell_of_row _ _ 0 _ _ _ hx9
                have c91 := cell_of_row _ _ 1 _ _ _ hx9
                have f90 := frozen_of_row _ _ 0 _ _ hx9
                have f91 := frozen_of_row _ _ 1 _ _ hx9
                simp only [List.getElem?_toArray, List.getElem?_cons_zero, List.getElem?_cons_succ] at c90 c91
                go_wp2_with fail
                have HN := Lib.hid (show Below wb.heap.size wb ((vd.setCell ⟨X9, 0, none⟩ (.slice aF nF cF)).setCell ⟨X9, 1, none⟩ (.slice aB nB cB)) from Below.setCell (Below.setCell HNv.out hNX _) hNX _)
                refine tailL_mk HN.out ?_
                repeat (refine tree_head rfl ?_; (show wpQuiet _ _ _ _ (_ :: _) _; go_big_quiet_step (fail)); refine wpQuiet_nil ?_)
                refine tree_done ?_
                go_wp2_with fail
                go_meet
                case rel => exact ⟨X9, aF, nF, cF, aB, nB, cB, aV, nV, cV, rfl, rfl, rfl, by go_simp, by go_simp, by simpa using l9, Lib.hid ⟨ints_stored HR.out.1 hx9 _ _, ints_stored HR.out.2.1 hx9 _ _, ints_stored HR.out.2.2 hx9 _ _⟩, HN⟩
            ·
              go_wp2_with fail
              obtain ⟨X9, hX9⟩ : ∃ X, X = wb.heap.size := ⟨_, rfl⟩
              have hNX : wb.heap.size ≤ X9 := by omega
              have hx9 : (wb.alloc (Obj.cells #[Value.slice none 0 0, Value.slice none 0 0] 26)).drew.heap[X9]? = some (.cells #[Value.slice none 0 0, Value.slice none 0 0] 26) := by rw [hX9]; exact heap_alloc_new _ _
              have l9 : X9 < (wb.alloc (Obj.cells #[Value.slice none 0 0, Value.slice none 0 0] 26)).drew.heap.size := by rw [hX9]; simp
              have hbx : Below wb.drew.heap.size wb.drew (wb.alloc (Obj.cells #[Value.slice none 0 0, Value.slice none 0 0] 26)).drew := (have h0 : Below wb.heap.size wb (wb.alloc (Obj.cells #[Value.slice none 0 0, Value.slice none 0 0] 26)).drew := (by (repeat' (first | (with_reducible exact Below.refl _ _) | (with_reducible assumption) | (with_reducible refine Below.drewN ?_ _) | (with_reducible refine Below.alloc ?_ ?_ _) | (with_reducible refine Below.drew ?_) | (with_reducible refine Below.setCell ?_ ?_ _) | (with_reducible refine Below.step (by assumption) ?_ ?_) | (with_reducible exact And.left (by assumption)) | go_size))); ⟨h0.os, h0.tape, h0.output, h0.size, h0.block⟩)
              try simp only [← hX9]
              generalize (wb.alloc (Obj.cells #[Value.slice none 0 0, Value.slice none 0 0] 26)).drew = va at *
              have HBv := Lib.hid (HBv.out.trans (hbx.mono HBv.out.size))
              have HNv := Lib.hid (HNv.out.trans (hbx.mono HNv.out.size))
              clear hX9 hbx
              refine tailL_mk HNv.out ?_
              refine tree_one rfl ?_; go_wp2_with fail
              refine (copyLine_any y _ n c e _ (HY.out.below HBv.out) (by omega)).mono ?_
              rintro eL vb ⟨al, cl, rfl, hbx, hl⟩
              have HLn := Lib.hid hl
              have HBv := Lib.hid (HBv.out.trans (hbx.mono HBv.out.size))
              have HNv := Lib.hid (HNv.out.trans (hbx.mono HNv.out.size))
              clear hl
              have hx9 := (hbx.block X9 l9).trans hx9
              have l9 := Nat.lt_of_lt_of_le l9 hbx.size
              clear hbx
              go_wp2_with fail
              refine tailL_mk HNv.out ?_
              refine tree_one rfl ?_; go_wp2_with fail
              refine (opposite_any f b _ _ n c1 n c2 _ (HF.out.below HBv.out) (HB.out.below HBv.out) (by omega) (by omega) HFB.out.1 HFB.out.2).mono ?_
              rintro eS vc ⟨a5, c5, a6, c6, rfl, hbx, hs1, hs2⟩
              have HSt := Lib.hid (And.intro hs1 hs2)
              have HBv := Lib.hid (HBv.out.trans (hbx.mono HBv.out.size))
              have HNv := Lib.hid (HNv.out.trans (hbx.mono HNv.out.size))
              clear hs1 hs2
              have HLn := Lib.hid (HLn.out.below hbx)
              have hx9 := (hbx.block X9 l9).trans hx9
              have l9 := Nat.lt_of_lt_of_le l9 hbx.size
              clear hbx
              go_wp2_with fail
              refine tailL_mk HNv.out ?_
              refine tree_one rfl ?_; go_wp2_with fail
              refine (step_u y (ng f) (ng b) (-s) al a5 a6 n cl n c5 n c6 e _ HLn.out HSt.out.1 HSt.out.2 (by omega) (by omega)).mono ?_
              rintro eT vd ⟨hbx, aF, nF, cF, aB, nB, cB, aV, nV, cV, rfl, hr1, hr2, hr3⟩
              have HR := Lib.hid (And.intro hr1 (And.intro hr2 hr3))
              have HBv := Lib.hid (HBv.out.trans (hbx.mono HBv.out.size))
              have HNv := Lib.hid (HNv.out.trans (hbx.mono HNv.out.size))
              clear hr1 hr2 hr3
              have hx9 := (hbx.block X9 l9).trans hx9
              have l9 := Nat.lt_of_lt_of_le l9 hbx.size
              clear hbx
              go_wp2_with fail
              refine tailL_mk HNv.out ?_
              repeat (refine tree_head rfl ?_; (show wpQuiet _ _ _ _ (_ :: _) _; go_big_quiet_step (fail)); refine wpQuiet_nil ?_)
              refine tree_one rfl ?_
              have c90 := cell_of_row _ _ 0 _ _ _ hx9
              have c91 := cell_of_row _ _ 1 _ _ _ hx9
              have f90 := frozen_of_row _ _ 0 _ _ hx9
              have f91 := frozen_of_row _ _ 1 _ _ hx9
              simp only [List.getElem?_toArray, List.getElem?_cons_zero, List.getElem?_cons_succ] at c90 c91
              go_wp2_with fail
              have HN := Lib.hid (show Below wb.heap.size wb ((vd.setCell ⟨X9, 0, none⟩ (.slice aF nF cF)).setCell ⟨X9, 1, none⟩ (.slice aB nB cB)) from Below.setCell (Below.setCell HNv.out hNX _) hNX _)
              refine tailL_mk HN.out ?_
              repeat (refine tree_head rfl ?_; (show wpQuiet _ _ _ _ (_ :: _) _; go_big_quiet_step (fail)); refine wpQuiet_nil ?_)
              refine tree_done ?_
              go_wp2_with fail
              go_meet
              case rel => exact ⟨X9, aF, nF, cF, aB, nB, cB, aV, nV, cV, rfl, rfl, rfl, by go_simp, by go_simp, by simpa using l9, Lib.hid ⟨ints_stored HR.out.1 hx9 _ _, ints_stored HR.out.2.1 hx9 _ _, ints_stored HR.out.2.2 hx9 _ _⟩, HN⟩
          case rest =>
            obtain ⟨wd, rfl⟩ : ∃ w', w' = wc := ⟨wc, rfl⟩
            obtain ⟨X17, aG, nG, cG, aH, nH, cH, aW, nW, cW, rfl, rfl, rfl, t0, t1, lt, HS, HNc⟩ := hcut
            have hbx := HNc.out
            have hzx := hbx.size
            have q0c : wd.cell? ⟨w.heap.size, 0, none⟩ = some (.slice a n c) := by { rw [cellB hbx _ _ (by first | (simp; done) | (simp; omega) | omega)]; all_goals (first | assumption | go_simp) }; have q1c : wd.cell? ⟨w.heap.size, 1, none⟩ = some (.bool e) := by { rw [cellB hbx _ _ (by first | (simp; done) | (simp; omega) | omega)]; all_goals (first | assumption | go_simp) }; have q2c : wd.cell? ⟨w.heap.size + 1, 0, none⟩ = some (.slice a1 n c1) := by { rw [cellB hbx _ _ (by first | (simp; done) | (simp; omega) | omega)]; all_goals (first | assumption | go_simp) }; have q3c : wd.cell? ⟨w.heap.size + 1, 1, none⟩ = some (.slice a2 n c2) := by { rw [cellB hbx _ _ (by first | (simp; done) | (simp; omega) | omega)]; all_goals (first | assumption | go_simp) }; have l0c : w.heap.size < wd.heap.size := by { omega }; have l1c : w.heap.size + 1 < wd.heap.size := by { omega }; have y0c : wd.cell? ⟨X14, 0, none⟩ = some (.slice aF nF cF) := by { rw [cellB hbx _ _ (by first | (simp; done) | (simp; omega) | omega)]; all_goals (first | assumption | go_simp) }; have y1c : wd.cell? ⟨X14, 1, none⟩ = some (.slice aB nB cB) := by { rw [cellB hbx _ _ (by first | (simp; done) | (simp; omega) | omega)]; all_goals (first | assumption | go_simp) }; have lyc : X14 < wd.heap.size := by { omega }
            have HBv := Lib.hid (HBv.out.trans (hbx.mono HBv.out.size))
            have HR := Lib.hid (And.intro (HR.out.1.below hbx) (And.intro (HR.out.2.1.below hbx) (HR.out.2.2.below hbx)))
            clear hbx hzx q0 q1 q2 q3 l0 l1 y0 y1 ly HNc
            have z0c := t0
            have z1c := t1
            have lzc := lt
            clear t0 t1 lt
            rw [ng_outF, ng_outB, ng_outV, ng_srL, ng_srL, ng_srL] at HS
            rw [ng_srE]
            have HVB := Lib.hid (fun k => srV_bd (s := s) (e := e) H0.out HSI.out k)
            have HOB := Lib.hid (srL_bd (y := y) (f := f) (b := b) (s := s) (e := e))
            have hlF : (outF y f b s).length = n := by rw [outF_len _ _ _ _ (by rw [HYL.out]; exact hn0)]; exact HYL.out
            have hlB : (outB y f b e).length = n := by rw [outB_len _ _ _ _ (by rw [HYL.out]; exact hn0)]; exact HYL.out
            have hF1 := srL_len (y := y) (f := f) (b := b) (s := s) (e := e) (l := outF y f b s) (by omega)
            have hB1 := srL_len (y := y) (f := f) (b := b) (s := s) (e := e) (l := outB y f b e) (by omega)
            clear hlF hlB
            generalize srL y f b s e (outF y f b s) = oF at *
            generalize srL y f b s e (outB y f b e) = oB at *
            generalize srL y f b s e (outV y f b s e) = V at *
            generalize srE y f b s e = E at *
            have e1 := HR.out.1.len
            have e2 := HR.out.2.1.len
            have e3 := HR.out.2.2.len
            have e4 := HS.out.1.len
            have e5 := HS.out.2.1.len
            have e6 := HS.out.2.2.len
            rw [ng_len] at e4 e5 e6
            obtain rfl : nF = nG := by omega
            obtain rfl : nB = nH := by omega
            obtain rfl : nV = nW := by omega
            have hnF : nF ≤ 20 := by omega
            have hnB : nB ≤ 20 := by omega
            clear e1 e2 e3 e4 e5 e6 hF1 hB1
            have hee : (E != E) = false := by simp
            have hvv : ((nV : Int) != (nV : Int)) = false := by simp
            go_wp2_with fail
            refine wp_region_laterM (B := wd.heap.size) [(true, 0), (true, 1), (true, 2), (true, 3), (true, 4), (true, 5), (true, 6), (true, 7), (true, 8), (true, 9), (true, 10), (true, 11), (true, 12), (false, 13), (false, 14), (true, 15), (true, 16)] (by kernel_rfl) (by kernel_rfl) ?_; simp only [opsOf, List.filterMap_cons, List.filterMap_nil, List.getElem?_toArray, List.getElem?_cons_zero, List.getElem?_cons_succ, Option.map_some]
            repeat (refine mix_head ?_; (show wpQuiet _ _ _ _ (_ :: _) _; go_big_quiet_step (fail)); refine wpQuiet_nil ?_)
            refine mix_tail ?_; go_wp2_with fail
            refine (opposite_any oF oB _ _ nF cF nB cB _ (HR.out.1.below (Below.refl wd.heap.size wd).drew) (HR.out.2.1.below (Below.refl wd.heap.size wd).drew) (by omega) (by omega) HOB.out.1 HOB.out.2).mono ?_
            rintro e20 va ⟨ap, cp, aq, cq, rfl, hba, hp, hq⟩
            have HNv := Lib.hid ((Below.refl wd.heap.size wd).drew.trans hba)
            have HPQ := Lib.hid (And.intro hp hq)
            clear hba hp hq
            go_wp2_with fail
            refine tailL_mk HNv.out ?_
            refine mix_tail ?_; go_wp2_with fail
            refine (sameState_any (ng oF) (ng oB) (ng oF) (ng oB) aG aH ap aq nF cG nB cH nF cp nB cq va (HS.out.1.below HNv.out) (HS.out.2.1.below HNv.out) HPQ.out.1 HPQ.out.2).mono ?_
            rintro e21 we ⟨rfl, hbe⟩
            rw [decide_eq_true rfl, decide_eq_true rfl, Bool.and_true]
            have hbx : Below wd.heap.size wd we := HNv.out.trans (hbe.mono HNv.out.size)
            have HNv := Lib.hid hbx
            clear hbe HPQ
            go_wp2_with fail
            refine tailL_mk HNv.out ?_
            repeat (refine mix_head ?_; (show wpQuiet _ _ _ _ (_ :: _) _; go_big_quiet_step (fail)); refine wpQuiet_nil ?_)
            refine mix_nil ?_
            have hzx := hbx.size
            have q0 : we.cell? ⟨w.heap.size, 0, none⟩ = some (.slice a n c) := by { rw [cellB hbx _ _ (by first | (simp; done) | (simp; omega) | omega)]; all_goals (first | assumption | go_simp) }; have q1 : we.cell? ⟨w.heap.size, 1, none⟩ = some (.bool e) := by { rw [cellB hbx _ _ (by first | (simp; done) | (simp; omega) | omega)]; all_goals (first | assumption | go_simp) }; have q2 : we.cell? ⟨w.heap.size + 1, 0, none⟩ = some (.slice a1 n c1) := by { rw [cellB hbx _ _ (by first | (simp; done) | (simp; omega) | omega)]; all_goals (first | assumption | go_simp) }; have q3 : we.cell? ⟨w.heap.size + 1, 1, none⟩ = some (.slice a2 n c2) := by { rw [cellB hbx _ _ (by first | (simp; done) | (simp; omega) | omega)]; all_goals (first | assumption | go_simp) }; have l0 : w.heap.size < we.heap.size := by { omega }; have l1 : w.heap.size + 1 < we.heap.size := by { omega }; have y0 : we.cell? ⟨X14, 0, none⟩ = some (.slice aF nF cF) := by { rw [cellB hbx _ _ (by first | (simp; done) | (simp; omega) | omega)]; all_goals (first | assumption | go_simp) }; have y1 : we.cell? ⟨X14, 1, none⟩ = some (.slice aB nB cB) := by { rw [cellB hbx _ _ (by first | (simp; done) | (simp; omega) | omega)]; all_goals (first | assumption | go_simp) }; have ly : X14 < we.heap.size := by { omega }; have z0 : we.cell? ⟨X17, 0, none⟩ = some (.slice aG nF cG) := by { rw [cellB hbx _ _ (by first | (simp; done) | (simp; omega) | omega)]; all_goals (first | assumption | go_simp) }; have z1 : we.cell? ⟨X17, 1, none⟩ = some (.slice aH nB cH) := by { rw [cellB hbx _ _ (by first | (simp; done) | (simp; omega) | omega)]; all_goals (first | assumption | go_simp) }; have lz : X17 < we.heap.size := by { omega }
            have HBv := Lib.hid (HBv.out.trans (hbx.mono HBv.out.size))
            have HR := Lib.hid (And.intro (HR.out.1.below hbx) (And.intro (HR.out.2.1.below hbx) (HR.out.2.2.below hbx)))
            have HS := Lib.hid (And.intro (HS.out.1.below hbx) (And.intro (HS.out.2.1.below hbx) (HS.out.2.2.below hbx)))
            clear hbx hzx q0c q1c q2c q3c l0c l1c y0c y1c lyc z0c z1c lzc HNv HOB
            clear y0 y1 ly z0 z1 lz
            have HV := Lib.hid (And.intro HR.out.2.2 HS.out.2.2)
            clear HR HS
            go_wp2_with fail
            go_loopw [20] (fun i wr => ∃ k : Nat, i = .int .i64 k ∧ k ≤ nV ∧ Hid (Below we.heap.size we wr)) (fun i _ => nV - (intOf i).toNat)
            case atStart => exact ⟨0, rfl, Nat.zero_le _, Lib.hid (Below.refl _ _)⟩
            case round =>
              obtain ⟨k, rfl, hk, hBr⟩ := hrel
              have hnV := HV.out.1.small
              rcases Nat.lt_or_ge k nV with hlt | hge
              · obtain ⟨bV, oV, rfl, hbV, hcV⟩ := (HV.out.1.below hBr.out).addr (by omega)
                obtain ⟨bW, oW, rfl, hbW, hcW⟩ := (HV.out.2.below hBr.out).addr (by omega)
                obtain ⟨X, hX⟩ : ∃ X, X = g0 V k := ⟨_, rfl⟩
                obtain ⟨Z, hZ⟩ : ∃ Z, Z = g0 (ng V) k := ⟨_, rfl⟩
                have cV : wr.cell? ⟨bV, oV + k, none⟩ = some (.int .i64 X) := by rw [hX]; exact hcV k hlt
                have cW : wr.cell? ⟨bW, oW + k, none⟩ = some (.int .i64 Z) := by rw [hZ]; exact hcW k hlt
                have bX := HVB.out k
                rw [← hX] at bX
                have hZX : -Z = X := by rw [hZ, hX, ng_g0]; omega
                have bZ : -100000000 ≤ Z ∧ Z ≤ 100000000 := by omega
                have hxx : (X != X) = false := by simp
                have i2 : (0 : Int) ≤ (k : Int) := by omega
                have i3 : (k : Int) < (nV : Int) := by omega
                clear hX hZ hcV hcW
                go_wp2
                go_quiet (fail)
                go_wp2
                go_roundw
                case rel => exact ⟨k + 1, by go_num, by omega, Lib.hid (hBr.out.drewN nq)⟩
                case measure => simp [intOf]; omega
              · obtain rfl : nV = k := by omega
                have hbx := hBr.out
                clear hBr HV
                have hzx := hbx.size
                have q0c : wr.cell? ⟨w.heap.size, 0, none⟩ = some (.slice a n c) := by { rw [cellB hbx _ _ (by first | (simp; done) | (simp; omega) | omega)]; all_goals (first | assumption | go_simp) }; have q1c : wr.cell? ⟨w.heap.size, 1, none⟩ = some (.bool e) := by { rw [cellB hbx _ _ (by first | (simp; done) | (simp; omega) | omega)]; all_goals (first | assumption | go_simp) }; have q2c : wr.cell? ⟨w.heap.size + 1, 0, none⟩ = some (.slice a1 n c1) := by { rw [cellB hbx _ _ (by first | (simp; done) | (simp; omega) | omega)]; all_goals (first | assumption | go_simp) }; have q3c : wr.cell? ⟨w.heap.size + 1, 1, none⟩ = some (.slice a2 n c2) := by { rw [cellB hbx _ _ (by first | (simp; done) | (simp; omega) | omega)]; all_goals (first | assumption | go_simp) }; have l0c : w.heap.size < wr.heap.size := by { omega }; have l1c : w.heap.size + 1 < wr.heap.size := by { omega }
                have HBv := Lib.hid (HBv.out.trans (hbx.mono HBv.out.size))
                clear hbx hzx q0 q1 q2 q3 l0 l1 
                obtain ⟨wf, rfl⟩ : ∃ w', w' = wr := ⟨wr, rfl⟩
                obtain ⟨by_, oy, rfl, hby, hcy⟩ := HY.out.addr (by omega)
                have HCY := Lib.hid hcy
                clear hcy
                go_wp2_with fail
                go_loopw [21] (fun i wr => ∃ k : Nat, i = .int .i64 k ∧ 1 ≤ k ∧ k ≤ n ∧ Hid (∀ j, j < k → g0 y j = g0 y 0) ∧ Hid (Below wf.heap.size wf wr)) (fun i _ => n - (intOf i).toNat)
                case atStart => exact ⟨1, rfl, Nat.le_refl _, by omega, Lib.hid (fun j hj => by rw [show j = 0 by omega]), Lib.hid (Below.refl _ _)⟩
                case round =>
                  obtain ⟨k, rfl, hk1, hk, hS, hBr⟩ := hrel
                  have hbx := hBr.out
                  have hzx := hbx.size
                  have q0 : wr.cell? ⟨w.heap.size, 0, none⟩ = some (.slice (some ⟨by_, oy, none⟩) n c) := by { rw [cellB hbx _ _ (by first | (simp; done) | (simp; omega) | omega)]; all_goals (first | assumption | go_simp) }; have q1 : wr.cell? ⟨w.heap.size, 1, none⟩ = some (.bool e) := by { rw [cellB hbx _ _ (by first | (simp; done) | (simp; omega) | omega)]; all_goals (first | assumption | go_simp) }; have q2 : wr.cell? ⟨w.heap.size + 1, 0, none⟩ = some (.slice a1 n c1) := by { rw [cellB hbx _ _ (by first | (simp; done) | (simp; omega) | omega)]; all_goals (first | assumption | go_simp) }; have q3 : wr.cell? ⟨w.heap.size + 1, 1, none⟩ = some (.slice a2 n c2) := by { rw [cellB hbx _ _ (by first | (simp; done) | (simp; omega) | omega)]; all_goals (first | assumption | go_simp) }; have l0 : w.heap.size < wr.heap.size := by { omega }; have l1 : w.heap.size + 1 < wr.heap.size := by { omega }
                  have HBv := Lib.hid (HBv.out.trans (hbx.mono HBv.out.size))
                  clear hbx hzx q0c q1c q2c q3c l0c l1c 
                  rcases Nat.lt_or_ge k n with hlt | hge
                  · obtain ⟨Y, hY⟩ : ∃ Y, Y = g0 y k := ⟨_, rfl⟩
                    obtain ⟨Y0, hY0⟩ : ∃ Y, Y = g0 y 0 := ⟨_, rfl⟩
                    have cY : wr.cell? ⟨by_, oy + k, none⟩ = some (.int .i64 Y) := by rw [cellB HBv.out _ _ hby, hY]; exact HCY.out k hlt
                    have cY0 : wr.cell? ⟨by_, oy, none⟩ = some (.int .i64 Y0) := by rw [cellB HBv.out _ _ hby, hY0]; have := HCY.out 0 hn0; simpa using this
                    have i2 : (0 : Int) ≤ (k : Int) := by omega
                    have i3 : (k : Int) < (n : Int) := by omega
                    have i4 : (0 : Int) < (n : Int) := by omega
                    have HYY := Lib.hid (And.intro hY hY0)
                    clear hY hY0
                    by_cases hYY : Y = Y0
                    · have hbb : (Y != Y0) = false := by simpa using hYY
                      have HYE := Lib.hid hYY
                      clear hYY
                      go_wp2
                      go_quiet (fail)
                      go_wp2
                      go_roundw
                      case rel => exact ⟨k + 1, by go_num, by omega, by omega, Lib.hid (fun j hj => by
                        rcases Nat.lt_or_ge j k with h | h
                        · exact hS.out j h
                        · rw [show j = k by omega, ← HYY.out.1, ← HYY.out.2]; exact HYE.out), Lib.hid (hBr.out.drewN nq)⟩
                      case measure => simp [intOf]; omega
                    · have hbb : (Y != Y0) = true := by simpa using hYY
                      have HYE := Lib.hid hYY
                      clear hYY
                      go_wp2
                      go_quiet (fail)
                      go_wp2
                      go_ret
                      exact ⟨rfl, by have := HBv.out; (repeat' (first | (with_reducible exact Below.refl _ _) | (with_reducible assumption) | (with_reducible refine Below.drewN ?_ _) | (with_reducible refine Below.alloc ?_ ?_ _) | (with_reducible refine Below.drew ?_) | (with_reducible refine Below.setCell ?_ ?_ _) | (with_reducible refine Below.step (by assumption) ?_ ?_) | (with_reducible exact And.left (by assumption)) | go_size))⟩
                  · obtain rfl : n = k := by omega
                    have HSY := Lib.hid (show Same y from fun i hi => hS.out i (by rw [← HYL.out]; exact hi))
                    clear hS hBr HCY
                    obtain ⟨wg, rfl⟩ : ∃ w', w' = wr := ⟨wr, rfl⟩
                    go_upto_if 168 with fail
                    obtain ⟨C, hC⟩ : ∃ C, C = rounds y e := ⟨_, rfl⟩
                    have HC := Lib.hid hC
                    have hC1 : C = if e then 2 * n else 4 * n := by rw [hC]; unfold rounds; rw [HYL.out]
                    clear hC
                    go_cut [22] from 169 to 172 (fun v22 wx => v22 = .int .i64 C ∧ wg = wx)
                    case first =>
                      cases e
                      · have hC2 : (C : Int) = 4 * (n : Int) := by simp at hC1; omega
                        go_wp2_with fail
                        go_meet
                        case rel => exact ⟨by rw [hC2], rfl⟩
                      · have hC2 : (C : Int) = 2 * (n : Int) := by simp at hC1; omega
                        go_wp2_with fail
                        go_meet
                        case rel => exact ⟨by rw [hC2], rfl⟩
                    case rest =>
                      obtain ⟨rfl, rfl⟩ := hcut
                      have hC40 : C ≤ 40 := by cases e <;> simp at hC1 <;> omega
                      clear hC1
                      go_wp2_with fail
                      refine (copyState_any f b _ _ n c1 n c2 _ (HF.out.below HBv.out) (HB.out.below HBv.out) (by omega) (by omega)).mono ?_
                      rintro e30 wh ⟨a5, c5, a6, c6, rfl, hbx, hs1, hs2⟩
                      have HNow := Lib.hid (And.intro hs1 hs2)
                      clear hs1 hs2
                      have hzx := hbx.size
                      have q0c : wh.cell? ⟨w.heap.size, 0, none⟩ = some (.slice (some ⟨by_, oy, none⟩) n c) := by { rw [cellB hbx _ _ (by first | (simp; done) | (simp; omega) | omega)]; all_goals (first | assumption | go_simp) }; have q1c : wh.cell? ⟨w.heap.size, 1, none⟩ = some (.bool e) := by { rw [cellB hbx _ _ (by first | (simp; done) | (simp; omega) | omega)]; all_goals (first | assumption | go_simp) }; have q2c : wh.cell? ⟨w.heap.size + 1, 0, none⟩ = some (.slice a1 n c1) := by { rw [cellB hbx _ _ (by first | (simp; done) | (simp; omega) | omega)]; all_goals (first | assumption | go_simp) }; have q3c : wh.cell? ⟨w.heap.size + 1, 1, none⟩ = some (.slice a2 n c2) := by { rw [cellB hbx _ _ (by first | (simp; done) | (simp; omega) | omega)]; all_goals (first | assumption | go_simp) }; have l0c : w.heap.size < wh.heap.size := by { omega }; have l1c : w.heap.size + 1 < wh.heap.size := by { omega }
                      have HBv := Lib.hid (HBv.out.trans (hbx.mono HBv.out.size))
                      clear hbx hzx q0 q1 q2 q3 l0 l1 
                      go_wp2_with fail
                      generalize hW : wh.alloc (Obj.cells #[.slice a5 n c5, .slice a6 n c6] 26) = wi0
                      have hbx : Below wh.heap.size wh wi0 := by rw [← hW]; (repeat' (first | (with_reducible exact Below.refl _ _) | (with_reducible assumption) | (with_reducible refine Below.drewN ?_ _) | (with_reducible refine Below.alloc ?_ ?_ _) | (with_reducible refine Below.drew ?_) | (with_reducible refine Below.setCell ?_ ?_ _) | (with_reducible refine Below.step (by assumption) ?_ ?_) | (with_reducible exact And.left (by assumption)) | go_size))
                      have hxw : wi0.heap[wh.heap.size]? = some (.cells #[.slice a5 n c5, .slice a6 n c6] 26) := by rw [← hW]; exact heap_alloc_new _ _
                      have lxw : wh.heap.size < wi0.heap.size := by { rw [← hW]; simp }
                      have HNow := Lib.hid (And.intro (HNow.out.1.below hbx) (HNow.out.2.below hbx))
                      have hwX : w.heap.size + 1 < wh.heap.size := l1c
                      have HBh := Lib.hid (HBv.out.mono (Nat.le_refl _))
                      have hzx := hbx.size
                      have q0 : wi0.cell? ⟨w.heap.size, 0, none⟩ = some (.slice (some ⟨by_, oy, none⟩) n c) := by { rw [cellB hbx _ _ (by first | (simp; done) | (simp; omega) | omega)]; all_goals (first | assumption | go_simp) }; have q1 : wi0.cell? ⟨w.heap.size, 1, none⟩ = some (.bool e) := by { rw [cellB hbx _ _ (by first | (simp; done) | (simp; omega) | omega)]; all_goals (first | assumption | go_simp) }; have q2 : wi0.cell? ⟨w.heap.size + 1, 0, none⟩ = some (.slice a1 n c1) := by { rw [cellB hbx _ _ (by first | (simp; done) | (simp; omega) | omega)]; all_goals (first | assumption | go_simp) }; have q3 : wi0.cell? ⟨w.heap.size + 1, 1, none⟩ = some (.slice a2 n c2) := by { rw [cellB hbx _ _ (by first | (simp; done) | (simp; omega) | omega)]; all_goals (first | assumption | go_simp) }; have l0 : w.heap.size < wi0.heap.size := by { omega }; have l1 : w.heap.size + 1 < wi0.heap.size := by { omega }
                      have HBv := Lib.hid (HBv.out.trans (hbx.mono HBv.out.size))
                      clear hbx hzx q0c q1c q2c q3c l0c l1c hW
                      obtain ⟨X23, hX23⟩ : ∃ X, X = wh.heap.size := ⟨_, rfl⟩
                      rw [← hX23] at hxw lxw hwX
                      simp only [← hX23]
                      have HX23 := Lib.hid hX23
                      have hBx : w.heap.size ≤ X23 := by omega
                      clear hX23
                      go_wp2_with fail
                      go_loopw [24] (fun i wr => ∃ (k : Nat) (a7 a8 : Option Addr) (c7 c8 : Nat), i = .int .i64 k ∧ k ≤ C ∧ wr.heap[X23]? = some (.cells #[.slice a7 n c7, .slice a8 n c8] 26) ∧ X23 < wr.heap.size ∧ Hid (IntsR wr a7 n (itr y e f b k).1 ∧ IntsR wr a8 n (itr y e f b k).2) ∧ Hid (Below X23 wi0 wr)) (fun i _ => C - (intOf i).toNat)
                      case atStart => exact ⟨0, a5, a6, c5, c6, rfl, Nat.zero_le _, hxw, lxw, HNow, Lib.hid (Below.refl _ _)⟩
                      case round =>
                        clear HNow hxw lxw
                        obtain ⟨k, a7, a8, c7, c8, rfl, hk, hxw, lxw, HNow, hBr⟩ := hrel
                        have hbx := hBr.out
                        have hzi := HBv.out.size
                        have hzx := hbx.size
                        have q0c : wr.cell? ⟨w.heap.size, 0, none⟩ = some (.slice (some ⟨by_, oy, none⟩) n c) := by { rw [cellB hbx _ _ (by first | (simp; done) | (simp; omega) | omega)]; all_goals (first | assumption | go_simp) }; have q1c : wr.cell? ⟨w.heap.size, 1, none⟩ = some (.bool e) := by { rw [cellB hbx _ _ (by first | (simp; done) | (simp; omega) | omega)]; all_goals (first | assumption | go_simp) }; have q2c : wr.cell? ⟨w.heap.size + 1, 0, none⟩ = some (.slice a1 n c1) := by { rw [cellB hbx _ _ (by first | (simp; done) | (simp; omega) | omega)]; all_goals (first | assumption | go_simp) }; have q3c : wr.cell? ⟨w.heap.size + 1, 1, none⟩ = some (.slice a2 n c2) := by { rw [cellB hbx _ _ (by first | (simp; done) | (simp; omega) | omega)]; all_goals (first | assumption | go_simp) }; have l0c : w.heap.size < wr.heap.size := by { omega }; have l1c : w.heap.size + 1 < wr.heap.size := by { omega }
                        have HBv := Lib.hid (HBv.out.trans (hbx.mono hBx))
                        clear hbx hzx q0 q1 q2 q3 l0 l1
                        have d0 := cell_of_row _ _ 0 _ _ _ hxw
                        have d1 := cell_of_row _ _ 1 _ _ _ hxw
                        have g0_ := frozen_of_row _ _ 0 _ _ hxw
                        have g1_ := frozen_of_row _ _ 1 _ _ hxw
                        simp only [List.getElem?_toArray, List.getElem?_cons_zero, List.getElem?_cons_succ] at d0 d1
                        rcases Nat.lt_or_ge k C with hlt | hge
                        ·
                          have i2 : (k : Int) < (C : Int) := by omega
                          have HKS := Lib.hid (itr_ok (e := e) H0.out HSY.out k)
                          have HSR := Lib.hid (same_srE (e := e) HKS.out HSY.out)
                          have hit : itr y e f b (k + 1) = (outF y (itr y e f b k).1 (itr y e f b k).2 0, outB y (itr y e f b k).1 (itr y e f b k).2 e) := rfl
                          have HIT := Lib.hid hit
                          clear hit
                          generalize (itr y e f b k).1 = f7 at *
                          generalize (itr y e f b k).2 = b7 at *
                          go_wp2_with fail
                          go_cut [25, 26, 27] from 180 to 187 (fun v9 v10 v11 wx => ∃ X9 aF nF cF aB nB cB aV nV cV, v9 = .pointer (some ⟨X9, 0, none⟩) ∧ v10 = .slice aV nV cV ∧ v11 = .int .i64 (srE y f7 b7 (0 : Int) e) ∧ wx.cell? ⟨X9, 0, none⟩ = some (.slice aF nF cF) ∧ wx.cell? ⟨X9, 1, none⟩ = some (.slice aB nB cB) ∧ X9 < wx.heap.size ∧
                                Hid (IntsR wx aF nF (srL y f7 b7 (0 : Int) e (outF y f7 b7 (0 : Int))) ∧ IntsR wx aB nB (srL y f7 b7 (0 : Int) e (outB y f7 b7 e)) ∧ IntsR wx aV nV (srL y f7 b7 (0 : Int) e (outV y f7 b7 (0 : Int) e))) ∧ Hid (Below wr.heap.size wr wx))
                          case first =>
                            have HBv := Lib.hid HBv.out.drew
                            have HNv := Lib.hid (Below.refl wr.heap.size wr).drew
                            refine wp_region_laterT (B := wr.heap.size) (.head 0 (.head 2 (.two 1 (.two 3 (.head 4 (.head 5 (.head 6 (.head 7 (.one 8 (.one 9 (.head 10 (.head 11 .done)))))))) 8 (.one 3 (.head 4 (.head 5 (.head 6 (.head 7 (.one 9 (.head 10 (.head 11 .done))))))))) 8 (.one 1 (.one 3 (.head 4 (.head 5 (.head 6 (.head 7 (.one 9 (.head 10 (.head 11 .done)))))))))))) (by kernel_rfl) (by kernel_rfl) ?_
                            repeat (refine tree_head rfl ?_; (show wpQuiet _ _ _ _ (_ :: _) _; go_big_quiet_step (fail)); refine wpQuiet_nil ?_)
                            refine tree_two rfl rfl ?_ ?_
                            ·
                              go_wp2_with fail
                              refine (copyLine_any y _ n c e _ (HY.out.below HBv.out) (by omega)).mono ?_
                              rintro eL va ⟨al, cl, rfl, hbx, hl⟩
                              have HLn := Lib.hid hl
                              have HBv := Lib.hid (HBv.out.trans (hbx.mono HBv.out.size))
                              have HNv := Lib.hid (HNv.out.trans (hbx.mono HNv.out.size))
                              clear hl
                              have HSt := Lib.hid (And.intro (HNow.out.1.below HNv.out) (HNow.out.2.below HNv.out))
                              clear hbx
                              go_wp2_with fail
                              refine tailL_mk HNv.out ?_
                              refine tree_two rfl rfl ?_ ?_
                              ·
                                go_wp2_with fail
                                refine (step_u y f7 b7 (0 : Int) al a7 a8 n cl n c7 n c8 e _ HLn.out HSt.out.1 HSt.out.2 (by omega) (by omega)).mono ?_
                                rintro eT vc ⟨hbx, aF, nF, cF, aB, nB, cB, aV, nV, cV, rfl, hr1, hr2, hr3⟩
                                have HR := Lib.hid (And.intro hr1 (And.intro hr2 hr3))
                                have HBv := Lib.hid (HBv.out.trans (hbx.mono HBv.out.size))
                                have HNv := Lib.hid (HNv.out.trans (hbx.mono HNv.out.size))
                                clear hr1 hr2 hr3
                                clear hbx
                                go_wp2_with fail
                                refine tailL_mk HNv.out ?_
                                repeat (refine tree_head rfl ?_; (show wpQuiet _ _ _ _ (_ :: _) _; go_big_quiet_step (fail)); refine wpQuiet_nil ?_)
                                refine tree_one rfl ?_
                                go_wp2_with fail
                                obtain ⟨X9, hX9⟩ : ∃ X, X = vc.heap.size := ⟨_, rfl⟩
                                have hNX : wr.heap.size ≤ X9 := by rw [hX9]; exact HNv.out.size
                                have hx9 : (vc.alloc (Obj.cells #[Value.slice none 0 0, Value.slice none 0 0] 26)).heap[X9]? = some (.cells #[Value.slice none 0 0, Value.slice none 0 0] 26) := by rw [hX9]; exact heap_alloc_new _ _
                                have l9 : X9 < (vc.alloc (Obj.cells #[Value.slice none 0 0, Value.slice none 0 0] 26)).heap.size := by rw [hX9]; simp
                                have hbx : Below vc.heap.size vc (vc.alloc (Obj.cells #[Value.slice none 0 0, Value.slice none 0 0] 26)) := by (repeat' (first | (with_reducible exact Below.refl _ _) | (with_reducible assumption) | (with_reducible refine Below.drewN ?_ _) | (with_reducible refine Below.alloc ?_ ?_ _) | (with_reducible refine Below.drew ?_) | (with_reducible refine Below.setCell ?_ ?_ _) | (with_reducible refine Below.step (by assumption) ?_ ?_) | (with_reducible exact And.left (by assumption)) | go_size))
                                try simp only [← hX9]
                                generalize vc.alloc (Obj.cells #[Value.slice none 0 0, Value.slice none 0 0] 26) = vd at *
                                have HBv := Lib.hid (HBv.out.trans (hbx.mono HBv.out.size))
                                have HNv := Lib.hid (HNv.out.trans (hbx.mono HNv.out.size))
                                clear hX9
                                have HR := Lib.hid (And.intro (HR.out.1.below hbx) (And.intro (HR.out.2.1.below hbx) (HR.out.2.2.below hbx)))
                                clear hbx
                                refine tailL_mk HNv.out ?_
                                refine tree_one rfl ?_
                                have c90 := cell_of_row _ _ 0 _ _ _ hx9
                                have c91 := cell_of_row _ _ 1 _ _ _ hx9
                                have f90 := frozen_of_row _ _ 0 _ _ hx9
                                have f91 := frozen_of_row _ _ 1 _ _ hx9
                                simp only [List.getElem?_toArray, List.getElem?_cons_zero, List.getElem?_cons_succ] at c90 c91
                                go_wp2_with fail
                                have HN := Lib.hid (show Below wr.heap.size wr ((vd.setCell ⟨X9, 0, none⟩ (.slice aF nF cF)).setCell ⟨X9, 1, none⟩ (.slice aB nB cB)) from Below.setCell (Below.setCell HNv.out hNX _) hNX _)
                                refine tailL_mk HN.out ?_
                                repeat (refine tree_head rfl ?_; (show wpQuiet _ _ _ _ (_ :: _) _; go_big_quiet_step (fail)); refine wpQuiet_nil ?_)
                                refine tree_done ?_
                                go_wp2_with fail
                                go_meet
                                case rel => exact ⟨X9, aF, nF, cF, aB, nB, cB, aV, nV, cV, rfl, rfl, rfl, by go_simp, by go_simp, by simpa using l9, Lib.hid ⟨ints_stored HR.out.1 hx9 _ _, ints_stored HR.out.2.1 hx9 _ _, ints_stored HR.out.2.2 hx9 _ _⟩, HN⟩
                              ·
                                go_wp2_with fail
                                obtain ⟨X9, hX9⟩ : ∃ X, X = va.heap.size := ⟨_, rfl⟩
                                have hNX : wr.heap.size ≤ X9 := by rw [hX9]; exact HNv.out.size
                                have hx9 : (va.alloc (Obj.cells #[Value.slice none 0 0, Value.slice none 0 0] 26)).heap[X9]? = some (.cells #[Value.slice none 0 0, Value.slice none 0 0] 26) := by rw [hX9]; exact heap_alloc_new _ _
                                have l9 : X9 < (va.alloc (Obj.cells #[Value.slice none 0 0, Value.slice none 0 0] 26)).heap.size := by rw [hX9]; simp
                                have hbx : Below va.heap.size va (va.alloc (Obj.cells #[Value.slice none 0 0, Value.slice none 0 0] 26)) := by (repeat' (first | (with_reducible exact Below.refl _ _) | (with_reducible assumption) | (with_reducible refine Below.drewN ?_ _) | (with_reducible refine Below.alloc ?_ ?_ _) | (with_reducible refine Below.drew ?_) | (with_reducible refine Below.setCell ?_ ?_ _) | (with_reducible refine Below.step (by assumption) ?_ ?_) | (with_reducible exact And.left (by assumption)) | go_size))
                                try simp only [← hX9]
                                generalize va.alloc (Obj.cells #[Value.slice none 0 0, Value.slice none 0 0] 26) = vc at *
                                have HBv := Lib.hid (HBv.out.trans (hbx.mono HBv.out.size))
                                have HNv := Lib.hid (HNv.out.trans (hbx.mono HNv.out.size))
                                clear hX9
                                have HLn := Lib.hid (HLn.out.below hbx)
                                have HSt := Lib.hid (And.intro (HSt.out.1.below hbx) (HSt.out.2.below hbx))
                                clear hbx
                                refine tailL_mk HNv.out ?_
                                refine tree_one rfl ?_; go_wp2_with fail
                                refine (step_u y f7 b7 (0 : Int) al a7 a8 n cl n c7 n c8 e _ HLn.out HSt.out.1 HSt.out.2 (by omega) (by omega)).mono ?_
                                rintro eT vd ⟨hbx, aF, nF, cF, aB, nB, cB, aV, nV, cV, rfl, hr1, hr2, hr3⟩
                                have HR := Lib.hid (And.intro hr1 (And.intro hr2 hr3))
                                have HBv := Lib.hid (HBv.out.trans (hbx.mono HBv.out.size))
                                have HNv := Lib.hid (HNv.out.trans (hbx.mono HNv.out.size))
                                clear hr1 hr2 hr3
                                have hx9 := (hbx.block X9 l9).trans hx9
                                have l9 := Nat.lt_of_lt_of_le l9 hbx.size
                                clear hbx
                                go_wp2_with fail
                                refine tailL_mk HNv.out ?_
                                repeat (refine tree_head rfl ?_; (show wpQuiet _ _ _ _ (_ :: _) _; go_big_quiet_step (fail)); refine wpQuiet_nil ?_)
                                refine tree_one rfl ?_
                                have c90 := cell_of_row _ _ 0 _ _ _ hx9
                                have c91 := cell_of_row _ _ 1 _ _ _ hx9
                                have f90 := frozen_of_row _ _ 0 _ _ hx9
                                have f91 := frozen_of_row _ _ 1 _ _ hx9
                                simp only [List.getElem?_toArray, List.getElem?_cons_zero, List.getElem?_cons_succ] at c90 c91
                                go_wp2_with fail
                                have HN := Lib.hid (show Below wr.heap.size wr ((vd.setCell ⟨X9, 0, none⟩ (.slice aF nF cF)).setCell ⟨X9, 1, none⟩ (.slice aB nB cB)) from Below.setCell (Below.setCell HNv.out hNX _) hNX _)
                                refine tailL_mk HN.out ?_
                                repeat (refine tree_head rfl ?_; (show wpQuiet _ _ _ _ (_ :: _) _; go_big_quiet_step (fail)); refine wpQuiet_nil ?_)
                                refine tree_done ?_
                                go_wp2_with fail
                                go_meet
                                case rel => exact ⟨X9, aF, nF, cF, aB, nB, cB, aV, nV, cV, rfl, rfl, rfl, by go_simp, by go_simp, by simpa using l9, Lib.hid ⟨ints_stored HR.out.1 hx9 _ _, ints_stored HR.out.2.1 hx9 _ _, ints_stored HR.out.2.2 hx9 _ _⟩, HN⟩
                            ·
                              go_wp2_with fail
                              obtain ⟨X9, hX9⟩ : ∃ X, X = wr.heap.size := ⟨_, rfl⟩
                              have hNX : wr.heap.size ≤ X9 := by omega
                              have hx9 : (wr.alloc (Obj.cells #[Value.slice none 0 0, Value.slice none 0 0] 26)).drew.heap[X9]? = some (.cells #[Value.slice none 0 0, Value.slice none 0 0] 26) := by rw [hX9]; exact heap_alloc_new _ _
                              have l9 : X9 < (wr.alloc (Obj.cells #[Value.slice none 0 0, Value.slice none 0 0] 26)).drew.heap.size := by rw [hX9]; simp
                              have hbx : Below wr.drew.heap.size wr.drew (wr.alloc (Obj.cells #[Value.slice none 0 0, Value.slice none 0 0] 26)).drew := (have h0 : Below wr.heap.size wr (wr.alloc (Obj.cells #[Value.slice none 0 0, Value.slice none 0 0] 26)).drew := (by (repeat' (first | (with_reducible exact Below.refl _ _) | (with_reducible assumption) | (with_reducible refine Below.drewN ?_ _) | (with_reducible refine Below.alloc ?_ ?_ _) | (with_reducible refine Below.drew ?_) | (with_reducible refine Below.setCell ?_ ?_ _) | (with_reducible refine Below.step (by assumption) ?_ ?_) | (with_reducible exact And.left (by assumption)) | go_size))); ⟨h0.os, h0.tape, h0.output, h0.size, h0.block⟩)
                              try simp only [← hX9]
                              generalize (wr.alloc (Obj.cells #[Value.slice none 0 0, Value.slice none 0 0] 26)).drew = va at *
                              have HBv := Lib.hid (HBv.out.trans (hbx.mono HBv.out.size))
                              have HNv := Lib.hid (HNv.out.trans (hbx.mono HNv.out.size))
                              clear hX9 hbx
                              refine tailL_mk HNv.out ?_
                              refine tree_one rfl ?_; go_wp2_with fail
                              refine (copyLine_any y _ n c e _ (HY.out.below HBv.out) (by omega)).mono ?_
                              rintro eL vb ⟨al, cl, rfl, hbx, hl⟩
                              have HLn := Lib.hid hl
                              have HBv := Lib.hid (HBv.out.trans (hbx.mono HBv.out.size))
                              have HNv := Lib.hid (HNv.out.trans (hbx.mono HNv.out.size))
                              clear hl
                              have hx9 := (hbx.block X9 l9).trans hx9
                              have l9 := Nat.lt_of_lt_of_le l9 hbx.size
                              have HSt := Lib.hid (And.intro (HNow.out.1.below HNv.out) (HNow.out.2.below HNv.out))
                              clear hbx
                              go_wp2_with fail
                              refine tailL_mk HNv.out ?_
                              refine tree_one rfl ?_; go_wp2_with fail
                              refine (step_u y f7 b7 (0 : Int) al a7 a8 n cl n c7 n c8 e _ HLn.out HSt.out.1 HSt.out.2 (by omega) (by omega)).mono ?_
                              rintro eT vd ⟨hbx, aF, nF, cF, aB, nB, cB, aV, nV, cV, rfl, hr1, hr2, hr3⟩
                              have HR := Lib.hid (And.intro hr1 (And.intro hr2 hr3))
                              have HBv := Lib.hid (HBv.out.trans (hbx.mono HBv.out.size))
                              have HNv := Lib.hid (HNv.out.trans (hbx.mono HNv.out.size))
                              clear hr1 hr2 hr3
                              have hx9 := (hbx.block X9 l9).trans hx9
                              have l9 := Nat.lt_of_lt_of_le l9 hbx.size
                              clear hbx
                              go_wp2_with fail
                              refine tailL_mk HNv.out ?_
                              repeat (refine tree_head rfl ?_; (show wpQuiet _ _ _ _ (_ :: _) _; go_big_quiet_step (fail)); refine wpQuiet_nil ?_)
                              refine tree_one rfl ?_
                              have c90 := cell_of_row _ _ 0 _ _ _ hx9
                              have c91 := cell_of_row _ _ 1 _ _ _ hx9
                              have f90 := frozen_of_row _ _ 0 _ _ hx9
                              have f91 := frozen_of_row _ _ 1 _ _ hx9
                              simp only [List.getElem?_toArray, List.getElem?_cons_zero, List.getElem?_cons_succ] at c90 c91
                              go_wp2_with fail
                              have HN := Lib.hid (show Below wr.heap.size wr ((vd.setCell ⟨X9, 0, none⟩ (.slice aF nF cF)).setCell ⟨X9, 1, none⟩ (.slice aB nB cB)) from Below.setCell (Below.setCell HNv.out hNX _) hNX _)
                              refine tailL_mk HN.out ?_
                              repeat (refine tree_head rfl ?_; (show wpQuiet _ _ _ _ (_ :: _) _; go_big_quiet_step (fail)); refine wpQuiet_nil ?_)
                              refine tree_done ?_
                              go_wp2_with fail
                              go_meet
                              case rel => exact ⟨X9, aF, nF, cF, aB, nB, cB, aV, nV, cV, rfl, rfl, rfl, by go_simp, by go_simp, by simpa using l9, Lib.hid ⟨ints_stored HR.out.1 hx9 _ _, ints_stored HR.out.2.1 hx9 _ _, ints_stored HR.out.2.2 hx9 _ _⟩, HN⟩
                          case rest =>
                            obtain ⟨wj, rfl⟩ : ∃ w', w' = wc := ⟨wc, rfl⟩
                            obtain ⟨X25, aF, nF, cF, aB, nB, cB, aV, nV, cV, rfl, rfl, rfl, t0, t1, lt, HR, HNc⟩ := hcut
                            have hbx := HNc.out
                            have HNk := HNc
                            have hbk := hbx.block
                            have hzk := hbx.size
                            have lxw0 := lxw
                            have hzx := hbx.size
                            have q0 : wj.cell? ⟨w.heap.size, 0, none⟩ = some (.slice (some ⟨by_, oy, none⟩) n c) := by { rw [cellB hbx _ _ (by first | (simp; done) | (simp; omega) | omega)]; all_goals (first | assumption | go_simp) }; have q1 : wj.cell? ⟨w.heap.size, 1, none⟩ = some (.bool e) := by { rw [cellB hbx _ _ (by first | (simp; done) | (simp; omega) | omega)]; all_goals (first | assumption | go_simp) }; have q2 : wj.cell? ⟨w.heap.size + 1, 0, none⟩ = some (.slice a1 n c1) := by { rw [cellB hbx _ _ (by first | (simp; done) | (simp; omega) | omega)]; all_goals (first | assumption | go_simp) }; have q3 : wj.cell? ⟨w.heap.size + 1, 1, none⟩ = some (.slice a2 n c2) := by { rw [cellB hbx _ _ (by first | (simp; done) | (simp; omega) | omega)]; all_goals (first | assumption | go_simp) }; have l0 : w.heap.size < wj.heap.size := by { omega }; have l1 : w.heap.size + 1 < wj.heap.size := by { omega }
                            have HBv := Lib.hid (HBv.out.trans (hbx.mono HBv.out.size))
                            clear hbx hzx q0c q1c q2c q3c l0c l1c HNc
                            rw [HSR.out]
                            rw [srL_zero HSR.out, srL_zero HSR.out, srL_zero HSR.out] at HR
                            have hbx0 : wj.heap[X23]? = wr.heap[X23]? := hbk X23 lxw
                            have hxw := hbx0.trans hxw
                            have lxw := Nat.lt_of_lt_of_le lxw hzk
                            clear hbx0 d0 d1 g0_ g1_ hbk
                            have HBr2 := Lib.hid (hBr.out.trans (HNk.out.mono (Nat.le_of_lt lxw0)))
                            clear HNk
                            have e1 := HR.out.1.len
                            have e2 := HR.out.2.1.len
                            rw [outF_len _ _ _ _ (by rw [HYL.out]; exact hn0), HYL.out] at e1
                            rw [outB_len _ _ _ _ (by rw [HYL.out]; exact hn0), HYL.out] at e2
                            subst e1 e2
                            go_wp2_with fail
                            refine (copyState_any _ _ aF aB n cF n cB wj HR.out.1 HR.out.2.1 (by omega) (by omega)).mono ?_
                            rintro e40 wk ⟨a9, c9, a10, c10, rfl, hbx, hs1, hs2⟩
                            have hxw := (hbx.block X23 lxw).trans hxw
                            have lxw2 := Nat.lt_of_lt_of_le lxw hbx.size
                            have d0 := cell_of_row _ _ 0 _ _ _ hxw
                            have d1 := cell_of_row _ _ 1 _ _ _ hxw
                            have g0_ := frozen_of_row _ _ 0 _ _ hxw
                            have g1_ := frozen_of_row _ _ 1 _ _ hxw
                            simp only [List.getElem?_toArray, List.getElem?_cons_zero, List.getElem?_cons_succ] at d0 d1
                            have HBr3 := Lib.hid (HBr2.out.trans (hbx.mono (Nat.le_of_lt lxw)))
                            have HN2 := Lib.hid (And.intro hs1 hs2)
                            clear hbx hs1 hs2
                            go_wp2
                            go_roundw
                            case rel =>
                              refine ⟨k + 1, a9, a10, c9, c10, by go_num, by omega, heap_set2 hxw _ _, by simpa using lxw2, ?_, Lib.hid ?_⟩
                              · rw [HIT.out]
                                exact Lib.hid ⟨ints_stored HN2.out.1 hxw _ _, ints_stored HN2.out.2 hxw _ _⟩
                              · exact Below.setCell (Below.setCell HBr3.out (Nat.le_refl _) _) (Nat.le_refl _) _
                            case measure => simp [intOf]; omega
                        · obtain rfl : C = k := by omega
                          have hib := itr_back (e := e) H0.out HSY.out
                          rw [← HC.out] at hib
                          rw [hib] at HNow
                          have i2 : ¬ ((C : Int) < (C : Int)) := by omega
                          clear hib
                          go_wp2_with fail
                          refine (sameState_any f b f b a7 a8 a1 a2 n c7 n c8 n c1 n c2 wr HNow.out.1 HNow.out.2 (HF.out.below HBv.out) (HB.out.below HBv.out)).mono ?_
                          rintro e50 wz ⟨rfl, hbx⟩
                          rw [decide_eq_true rfl, decide_eq_true rfl, Bool.and_true]
                          have HBz := Lib.hid (HBv.out.trans (hbx.mono HBv.out.size))
                          clear hbx
                          go_wp2
                          go_ret
                          exact ⟨rfl, HBz.out⟩
theorem enl_walk (y f b : List Int) (s : Int) (a a1 a2 : Option Addr) (n c n1 c1 n2 c2 : Nat) (e : Bool) (w : World) (hy : IntsR w a n y) (hf : IntsR w a1 n1 f) (hb : IntsR w a2 n2 b) :
    Calls Try.prog 3 #[.agg #[.slice a n c, .bool e], .agg #[.slice a1 n1 c1, .slice a2 n2 c2], .int .i64 s] w fun e' w' => e' = .returned (.bool true) ∧ Below w.heap.size w w' := by
  by_cases h : n ≤ 12 ∧ stErr y f b = 0 ∧ wi s (-1000) 1000 = true
  · have hz := stErr_zero h.2.1
    rw [hy.len, hf.len, hb.len] at hz
    obtain rfl : n = n1 := hz.2.1.symm
    obtain rfl : n = n2 := hz.2.2.1.symm
    exact enl_main y f b s a a1 a2 n c c1 c2 e w hy hf hb h.2.1 h.2.2
  · exact enl_few y f b s a a1 a2 n c n1 c1 n2 c2 e w hy hf hb h
end Go.Proofs.Ytiellefbndlkkaa
