import Derived.Test.YtdklmcicogmeaaaGreatMDEqG
import Derived.Test.YtdklmcicogmeaaaGreatMDRErr
import Derived.Test.YtdklmcicogmeaaaGreatMRespQ
import Derived.Test.YtdklmcicogmeaaaGreatRDfm
/- What was measured: copies, the error, whether a set explains it: the reference's functions. -/
namespace Go.Proofs.YtdklmcicogmeaaaGreat
open Go.RowKit
set_option linter.unusedVariables false

set_option maxRecDepth 100000 in
theorem copyGaussesO_any (l : List (Int × Int)) (a : Option Addr) (n c : Nat) (w : World) (h : PairsR w a n l) (hn : n ≤ 100000) :
    Calls Tryz.prog 42 #[.slice a n c] w fun e' w' => ∃ a' c', e' = .returned (.slice a' n c') ∧ Below w.heap.size w w' ∧ w'.ownsRow w.heap.size 107 2 (.slice a' n c') n (pcells l) := by
  have H := Lib.hid h
  clear h
  go_enter Tryz.func42, Tryz.ntmps42
  go_wp2_with (at_builtin; refine wpList_append_sl _ rfl _ _ 86 rfl w.heap.size 107 _ 2 16 Tryz.underlying86 infoGauss rfl (by omega) _ 0 _ rfl (World.ownsRow_made w #[] 0 (by omega) (by simp [maxLen]) rfl) _ n c (pcells l) rfl (H.out.below (by (repeat' (first | (with_reducible exact Below.refl _ _) | (with_reducible assumption) | (with_reducible refine Below.drewN ?_ _) | (with_reducible refine Below.alloc ?_ ?_ _) | (with_reducible refine Below.drew ?_) | (with_reducible refine Below.setCell ?_ ?_ _) | (with_reducible refine Below.step (by assumption) ?_ ?_) | (with_reducible exact And.left (by assumption)) | go_size)))) (pcells_one l) (by omega) (by omega) (by simp) ?_)
  intro v2 w2 hown2 _ hb2
  obtain ⟨a', c', rfl, _, _⟩ := owns_slice hown2
  have HO := Lib.hid hown2
  have HB := Lib.hid hb2
  clear hown2 hb2
  go_wp2
  go_ret
  exact ⟨a', c', rfl, Below.trans (by (repeat' (first | (with_reducible exact Below.refl _ _) | (with_reducible assumption) | (with_reducible refine Below.drewN ?_ _) | (with_reducible refine Below.alloc ?_ ?_ _) | (with_reducible refine Below.drew ?_) | (with_reducible refine Below.setCell ?_ ?_ _) | (with_reducible refine Below.step (by assumption) ?_ ?_) | (with_reducible exact And.left (by assumption)) | go_size))) HB.out, by simpa using HO.out⟩
set_option maxHeartbeats 1000000 in
set_option maxRecDepth 100000 in
theorem copyMeasured_any (fs : List Int) (rs : List (Int × Int)) (af ar : Option Addr) (nf cf nr cr : Nat) (w : World) (hf : IntsR w af nf fs) (hr : PairsR w ar nr rs) (h1 : nf ≤ 100000) (h2 : nr ≤ 100000) :
    Calls Tryz.prog 50 #[.agg #[.slice af nf cf, .slice ar nr cr]] w fun e' w' => ∃ a1 c1 a2 c2, e' = .returned (.agg #[.slice a1 nf c1, .slice a2 nr c2]) ∧ Below w.heap.size w w' ∧ IntsR w' a1 nf fs ∧ PairsR w' a2 nr rs := by
  have HCI := Lib.hid (fun (W : World) (hb : Below w.heap.size w W) => copyInts_any fs af nf cf W (hf.below hb) h1)
  have HCG := Lib.hid (fun (W : World) (hb : Below w.heap.size w W) => copyGaussesO_any rs ar nr cr W (hr.below hb) h2)
  clear hf hr h1 h2
  go_enter Tryz.func50, Tryz.ntmps50
  go_wp2_with fail
  generalize hW : World.alloc _ _ = w5
  have hb5 : Below w.heap.size w w5 := by rw [← hW]; (repeat' (first | (with_reducible exact Below.refl _ _) | (with_reducible assumption) | (with_reducible refine Below.drewN ?_ _) | (with_reducible refine Below.alloc ?_ ?_ _) | (with_reducible refine Below.drew ?_) | (with_reducible refine Below.setCell ?_ ?_ _) | (with_reducible refine Below.step (by assumption) ?_ ?_) | (with_reducible exact And.left (by assumption)) | go_size))
  have q0 : w5.cell? ⟨w.heap.size, 0, none⟩ = some (.slice af nf cf) := by { rw [← hW]; clear hW; go_simp }
  have q1 : w5.cell? ⟨w.heap.size, 1, none⟩ = some (.slice ar nr cr) := by { rw [← hW]; clear hW; go_simp }
  have z0 : w5.cell? ⟨w.heap.size + 1, 0, none⟩ = some (.slice none 0 0) := by { rw [← hW]; clear hW; go_simp }
  have z1 : w5.cell? ⟨w.heap.size + 1, 1, none⟩ = some (.slice none 0 0) := by { rw [← hW]; clear hW; go_simp }
  have f0 : w5.frozen? ⟨w.heap.size + 1, 0, none⟩ = false := by { rw [← hW]; clear hW; go_simp }
  have f1 : w5.frozen? ⟨w.heap.size + 1, 1, none⟩ = false := by { rw [← hW]; clear hW; go_simp }
  have z5 : w5.heap.size = w.heap.size + 1 + 1 := by { rw [← hW]; clear hW; simp }
  have ok0 : OkB w.heap.size w5.heap.size (w.heap.size + 1) := ⟨by omega, by omega⟩
  have HB5 := Lib.hid hb5
  have l1 : w.heap.size + 1 < w5.heap.size := by omega
  have HZ := Lib.hid z5
  clear hW hb5 z5
  refine wp_region_laterC (B := w5.heap.size) (b0 :=  w.heap.size + 1) [(true, 0), (true, 1), (true, 3), (true, 4), (false, 2), (false, 5), (true, 6), (false, 7)] (by kernel_rfl) (by kernel_rfl) ?_; simp only [opsOf, List.filterMap_cons, List.filterMap_nil, List.getElem?_toArray, List.getElem?_cons_zero, List.getElem?_cons_succ, Option.map_some]
  repeat (refine mixc_head ?_; (show wpQuiet _ _ _ _ (_ :: _) _; go_big_quiet_step (fail)); refine wpQuiet_nil ?_)
  refine mixc_tail ?_; go_wp2_with fail
  refine (HCI.out _ (HB5.out.trans (show Below w.heap.size w5 _ by (repeat' (first | (with_reducible exact Below.refl _ _) | (with_reducible assumption) | (with_reducible refine Below.drewN ?_ _) | (with_reducible refine Below.alloc ?_ ?_ _) | (with_reducible refine Below.drew ?_) | (with_reducible refine Below.setCell ?_ ?_ _) | (with_reducible refine Below.step (by assumption) ?_ ?_) | (with_reducible exact And.left (by assumption)) | go_size))))).mono ?_
  rintro e6 w6 ⟨a6, c6, rfl, hb6, ho6⟩
  have HX := Lib.hid ((Below.refl w5.heap.size w5).drew.trans hb6)
  have HI := Lib.hid (show w6.ownsRow w5.heap.size 3 1 (.slice a6 nf c6) nf (icells fs) from owns_mono ho6 (by simp))
  clear hb6 ho6
  go_wp2_with fail
  refine tailC_stay (SameX.of_below HX.out) ?_
  repeat (refine mixc_head ?_; (show wpQuiet _ _ _ _ (_ :: _) _; go_big_quiet_step (fail)); refine wpQuiet_nil ?_)
  refine mixc_tail ?_; go_wp2_with fail
  refine (HCG.out _ (HB5.out.trans (HX.out.mono HB5.out.size))).mono ?_
  rintro e7 w7 ⟨a7, c7, rfl, hb7, hp7⟩
  have HI := Lib.hid (owns_below HI.out hb7 (fun k hk => (HI.out.lt k hk).2))
  have HP := Lib.hid (show w7.ownsRow w5.heap.size 107 2 (.slice a7 nr c7) nr (pcells rs) from owns_mono hp7 HX.out.size)
  have HX := Lib.hid (HX.out.trans (hb7.mono HX.out.size))
  have hbx := HX.out
  have hzx := hbx.size
  have z0d : w7.cell? ⟨w.heap.size + 1, 0, none⟩ = some (.slice none 0 0) := by { rw [cellB hbx _ _ (by first | (simp; done) | (simp; omega) | omega)]; all_goals (first | assumption | go_simp) }; have z1d : w7.cell? ⟨w.heap.size + 1, 1, none⟩ = some (.slice none 0 0) := by { rw [cellB hbx _ _ (by first | (simp; done) | (simp; omega) | omega)]; all_goals (first | assumption | go_simp) }; have f0d : w7.frozen? ⟨w.heap.size + 1, 0, none⟩ = false := by { rw [frozenB hbx _ _ (by first | (simp; done) | (simp; omega) | omega)]; all_goals (first | assumption | go_simp) }; have f1d : w7.frozen? ⟨w.heap.size + 1, 1, none⟩ = false := by { rw [frozenB hbx _ _ (by first | (simp; done) | (simp; omega) | omega)]; all_goals (first | assumption | go_simp) }; have l1d : w.heap.size + 1 < w7.heap.size := by { omega }
  clear hb7 hp7 hbx hzx z0 z1 f0 f1
  go_wp2_with fail
  refine tailC_stay (SameX.of_below HX.out) ?_
  repeat (refine mixc_head ?_; (show wpQuiet _ _ _ _ (_ :: _) _; go_big_quiet_step (fail)); refine wpQuiet_nil ?_)
  refine mixc_tail ?_; go_wp2_with fail
  refine tailC_stay (.set (.set (SameX.of_below HX.out) _) _) ?_
  refine mixc_nil ?_
  go_wp2_with fail
  generalize hW : World.setCell _ _ _ = w12
  have r0 : w12.cell? ⟨w.heap.size + 1, 0, none⟩ = some (.slice a6 nf c6) := by { rw [← hW]; clear hW; go_simp }
  have r1 : w12.cell? ⟨w.heap.size + 1, 1, none⟩ = some (.slice a7 nr c7) := by { rw [← hW]; clear hW; go_simp }
  have hb12 : Below w.heap.size w w12 := by { rw [← hW]; have := HB5.out.trans (HX.out.mono HB5.out.size); (repeat' (first | (with_reducible exact Below.refl _ _) | (with_reducible assumption) | (with_reducible refine Below.drewN ?_ _) | (with_reducible refine Below.alloc ?_ ?_ _) | (with_reducible refine Below.drew ?_) | (with_reducible refine Below.setCell ?_ ?_ _) | (with_reducible refine Below.step (by assumption) ?_ ?_) | (with_reducible exact And.left (by assumption)) | go_size)) }
  have ho1 : w12.ownsRow w5.heap.size 3 1 (.slice a6 nf c6) nf (icells fs) := by { rw [← hW]; have := HI.out; (repeat' (first | (with_reducible assumption) | ((with_reducible refine owns_lit ?_ ?_ ?_ ?_) <;> first | (simp; done) | (simp; omega) | omega) | (with_reducible refine World.ownsRow.alloc ?_ _) | (with_reducible refine World.ownsRow.drew ?_) | (with_reducible refine owns_drewN ?_ _) | (with_reducible refine ownsRow_setCell_below ?_ ?_ _) | (simp; done) | (simp; omega) | omega)) }
  have ho2 : w12.ownsRow w5.heap.size 107 2 (.slice a7 nr c7) nr (pcells rs) := by { rw [← hW]; have := HP.out; (repeat' (first | (with_reducible assumption) | ((with_reducible refine owns_lit ?_ ?_ ?_ ?_) <;> first | (simp; done) | (simp; omega) | omega) | (with_reducible refine World.ownsRow.alloc ?_ _) | (with_reducible refine World.ownsRow.drew ?_) | (with_reducible refine owns_drewN ?_ _) | (with_reducible refine ownsRow_setCell_below ?_ ?_ _) | (simp; done) | (simp; omega) | omega)) }
  clear hW
  exact bodyPost_ret (v := .agg #[.slice a6 nf c6, .slice a7 nr c7]) (by simp [results, Tryz.results50, go_sem, r0, r1]) rfl ⟨a6, c6, a7, c7, rfl, hb12, SlR.of_owns ho1, SlR.of_owns ho2⟩
theorem askE_cases (s l : List T3) (fs : List Int) (rs : List (Int × Int)) : askE s l fs rs = if (netE s).2 ≠ 0 then (netE s).2 else if defsE s.length l ≠ 0 then defsE s.length l else if freE fs ≠ 0 then freE fs else if respsE rs ≠ 0 then respsE rs else if fs.length = rs.length then 0 else 10 := by
  unfold askE
  by_cases h1 : (netE s).2 = 0
  · by_cases h2 : defsE s.length l = 0
    · by_cases h3 : freE fs = 0
      · by_cases h4 : respsE rs = 0
        · by_cases h5 : fs.length = rs.length
          · rw [h1, h2, h3, h4, if_pos h5, h5]; simp [firstErr, unl]
          · rw [h1, h2, h3, h4, if_neg h5, show ((rs.length : Int) == (fs.length : Int)) = false by simp; omega]; simp [firstErr, unl]
        · rw [h1, h2, h3]; simp [firstErr, h4]
      · rw [h1, h2]; simp [firstErr, h3]
    · rw [h1]; simp [firstErr, h2]
  · simp [firstErr, h1]
theorem freE_ok9 {l : List Int} (h2 : freE l = 0) : l.length ≤ 8 ∧ ∀ f ∈ l, 0 ≤ f ∧ f ≤ 6 := by
  unfold freE at h2
  obtain ⟨g1, g2⟩ := firstErr_cons.1 h2
  obtain ⟨g3, _⟩ := firstErr_cons.1 g2
  rw [unl_eq_zero (by omega)] at g1 g3
  rw [decide_eq_true_eq] at g1
  rw [Bool.not_eq_true', List.any_eq_false] at g3
  exact ⟨by omega, fun f hf => by have := g3 f hf; simpa [wi_iff] using this⟩
end Go.Proofs.YtdklmcicogmeaaaGreat
