import Derived.Test.YthkekjgdknnaiaaGreatMDEqG
import Derived.Test.YthkekjgdknnaiaaGreatMDRErr
import Derived.Test.YthkekjgdknnaiaaGreatMRespQ
import Derived.Test.YthkekjgdknnaiaaGreatRDfm
/- What was measured: copies, the error, whether a set explains it: the reference's functions. -/
namespace Go.Proofs.YthkekjgdknnaiaaGreat
open Go.RowKit
set_option linter.unusedVariables false

set_option maxRecDepth 100000 in
theorem copyGaussesO_any (l : List (Int × Int)) (a : Option Addr) (n c : Nat) (w : World) (h : PairsR w a n l) (hn : n ≤ 100000) :
    Calls Tryz.prog 73 #[.slice a n c] w fun e' w' => ∃ a' c', e' = .returned (.slice a' n c') ∧ Below w.heap.size w w' ∧ w'.ownsRow w.heap.size 144 2 (.slice a' n c') n (pcells l) := by
  have H := Lib.hid h
  clear h
  go_enter Tryz.func73, Tryz.ntmps73
  go_wp2_with (at_builtin; refine wpList_append_sl _ rfl _ _ 27 rfl w.heap.size 144 _ 2 16 Tryz.underlying27 infoGauss rfl (by omega) _ 0 _ rfl (World.ownsRow_made w #[] 0 (by omega) (by simp [maxLen]) rfl) _ n c (pcells l) rfl (H.out.below (by (repeat' (first | (with_reducible exact Below.refl _ _) | (with_reducible assumption) | (with_reducible refine Below.drewN ?_ _) | (with_reducible refine Below.alloc ?_ ?_ _) | (with_reducible refine Below.drew ?_) | (with_reducible refine Below.setCell ?_ ?_ _) | (with_reducible refine Below.step (by assumption) ?_ ?_) | (with_reducible exact And.left (by assumption)) | go_size)))) (pcells_one l) (by omega) (by omega) (by simp) ?_)
  intro v2 w2 hown2 _ hb2
  obtain ⟨a', c', rfl, _, _⟩ := owns_slice hown2
  have HO := Lib.hid hown2
  have HB := Lib.hid hb2
  clear hown2 hb2
  go_wp2
  go_ret
  exact ⟨a', c', rfl, Below.trans (by (repeat' (first | (with_reducible exact Below.refl _ _) | (with_reducible assumption) | (with_reducible refine Below.drewN ?_ _) | (with_reducible refine Below.alloc ?_ ?_ _) | (with_reducible refine Below.drew ?_) | (with_reducible refine Below.setCell ?_ ?_ _) | (with_reducible refine Below.step (by assumption) ?_ ?_) | (with_reducible exact And.left (by assumption)) | go_size))) HB.out, by simpa using HO.out⟩
set_option maxHeartbeats 1000000 in
set_option maxRecDepth 100000 in
theorem copyMeasured_any (fs : List Int) (rs : List (Int × Int)) (af ar : Option Addr) (nf cf nr cr : Nat) (w : World) (hf : IntsR w af nf fs) (hr : PairsR w ar nr rs) (h1 : nf ≤ 100000) (h2 : nr ≤ 100000) :
    Calls Tryz.prog 18 #[.agg #[.slice af nf cf, .slice ar nr cr]] w fun e' w' => ∃ a1 c1 a2 c2, e' = .returned (.agg #[.slice a1 nf c1, .slice a2 nr c2]) ∧ Below w.heap.size w w' ∧ IntsR w' a1 nf fs ∧ PairsR w' a2 nr rs := by
  have HCI := Lib.hid (fun (W : World) (hb : Below w.heap.size w W) => copyInts_any fs af nf cf W (hf.below hb) h1)
  have HCG := Lib.hid (fun (W : World) (hb : Below w.heap.size w W) => copyGaussesO_any rs ar nr cr W (hr.below hb) h2)
  clear hf hr h1 h2
  go_enter Tryz.func18, Tryz.ntmps18
  go_wp2_with fail
  generalize hW : World.alloc _ _ = w5
  have hb5 : Below w.heap.size w w5 := by rw [← hW]; (repeat' (first | (with_reducible exact Below.refl _ _) | (with_reducible assumption) | (with_reducible refine Below.drewN ?_ _) | (with_reducible refine Below.alloc ?_ ?_ _) | (with_reducible refine Below.drew ?_) | (with_reducible refine Below.setCell ?_ ?_ _) | (with_reducible refine Below.step (by assumption) ?_ ?_) | (with_reducible exact And.left (by assumption)) | go_size))
  have q0 : w5.cell? ⟨w.heap.size, 0, none⟩ = some (.slice af nf cf) := by { rw [← hW]; clear hW; go_simp }
  have q1 : w5.cell? ⟨w.heap.size, 1, none⟩ = some (.slice ar nr cr) := by { rw [← hW]; clear hW; go_simp }
  have z0 : w5.cell? ⟨w.heap.size + 1, 0, none⟩ = some (.slice none 0 0) := by { rw [← hW]; clear hW; go_simp }
  have z1 : w5.cell? ⟨w.heap.size + 1, 1, none⟩ = some (.slice none 0 0) := by { rw [← hW]; clear hW; go_simp }
  have f0 : w5.frozen? ⟨w.heap.size + 1, 0, none⟩ = false := by { rw [← hW]; clear hW; go_simp }
  have f1 : w5.frozen? ⟨w.heap.size + 1, 1, none⟩ = false := by { rw [← hW]; clear hW; go_simp }
  have z5 : w5.heap.size = w.heap.size + 1 + 1 := by { rw [← hW]; clear hW; simp }
  have ok0 : OkB w.heap.size w5.heap.size (w.heap.size + 1) := ⟨by omega, by omega⟩
  have HB5 := Lib.hid hb5
  have l1 : w.heap.size + 1 < w5.heap.size := by omega
  have HZ := Lib.hid z5
  clear hW hb5 z5
  refine wp_region_laterC (B := w5.heap.size) (b0 :=  w.heap.size + 1) [(true, 0), (true, 1), (true, 3), (true, 4), (false, 2), (false, 5), (true, 6), (false, 7)] (by kernel_rfl) (by kernel_rfl) ?_; simp only [opsOf, List.filterMap_cons, List.filterMap_nil, List.getElem?_toArray, List.getElem?_cons_zero, List.getElem?_cons_succ, Option.map_some]
  repeat (refine mixc_head ?_; (show wpQuiet _ _ _ _ (_ :: _) _; go_big_quiet_step (fail)); refine wpQuiet_nil ?_)
  refine mixc_tail ?_; go_wp2_with fail
  refine (HCI.out _ (HB5.out.trans (show Below w.heap.size w5 _ by (repeat' (first | (with_reducible exact Below.refl _ _) | (with_reducible assumption) | (with_reducible refine Below.drewN ?_ _) | (with_reducible refine Below.alloc ?_ ?_ _) | (with_reducible refine Below.drew ?_) | (with_reducible refine Below.setCell ?_ ?_ _) | (with_reducible refine Below.step (by assumption) ?_ ?_) | (with_reducible exact And.left (by assumption)) | go_size))))).mono ?_
  rintro e6 w6 ⟨a6, c6, rfl, hb6, ho6⟩
  have HX := Lib.hid ((Below.refl w5.heap.size w5).drew.trans hb6)
  have HI := Lib.hid (show w6.ownsRow w5.heap.size 3 1 (.slice a6 nf c6) nf (icells fs) from owns_mono ho6 (by simp))
  clear hb6 ho6
  go_wp2_with fail
  refine tailC_stay (SameX.of_below HX.out) ?_
  repeat (refine mixc_head ?_; (show wpQuiet _ _ _ _ (_ :: _) _; go_big_quiet_step (fail)); refine wpQuiet_nil ?_)
  refine mixc_tail ?_; go_wp2_with fail
  refine (HCG.out _ (HB5.out.trans (HX.out.mono HB5.out.size))).mono ?_
  rintro e7 w7 ⟨a7, c7, rfl, hb7, hp7⟩
  have HI := Lib.hid (owns_below HI.out hb7 (fun k hk => (HI.out.lt k hk).2))
  have HP := Lib.hid (show w7.ownsRow w5.heap.size 144 2 (.slice a7 nr c7) nr (pcells rs) from owns_mono hp7 HX.out.size)
  have HX := Lib.hid (HX.out.trans (hb7.mono HX.out.size))
  have hbx := HX.out
  have hzx := hbx.size
  have z0d : w7.cell? ⟨w.heap.size + 1, 0, none⟩ = some (.slice none 0 0) := by { rw [cellB hbx _ _ (by first | (simp; done) | (simp; omega) | omega)]; all_goals (first | assumption | go_simp) }; have z1d : w7.cell? ⟨w.heap.size + 1, 1, none⟩ = some (.slice none 0 0) := by { rw [cellB hbx _ _ (by first | (simp; done) | (simp; omega) | omega)]; all_goals (first | assumption | go_simp) }; have f0d : w7.frozen? ⟨w.heap.size + 1, 0, none⟩ = false := by { rw [frozenB hbx _ _ (by first | (simp; done) | (simp; omega) | omega)]; all_goals (first | assumption | go_simp) }; have f1d : w7.frozen? ⟨w.heap.size + 1, 1, none⟩ = false := by { rw [frozenB hbx _ _ (by first | (simp; done) | (simp; omega) | omega)]; all_goals (first | assumption | go_simp) }; have l1d : w.heap.size + 1 < w7.heap.size := by { omega }
  clear hb7 hp7 hbx hzx z0 z1 f0 f1
  go_wp2_with fail
  refine tailC_stay (SameX.of_below HX.out) ?_
  repeat (refine mixc_head ?_; (show wpQuiet _ _ _ _ (_ :: _) _; go_big_quiet_step (fail)); refine wpQuiet_nil ?_)
  refine mixc_tail ?_; go_wp2_with fail
  refine tailC_stay (.set (.set (SameX.of_below HX.out) _) _) ?_
  refine mixc_nil ?_
  go_wp2_with fail
  generalize hW : World.setCell _ _ _ = w12
  have r0 : w12.cell? ⟨w.heap.size + 1, 0, none⟩ = some (.slice a6 nf c6) := by { rw [← hW]; clear hW; go_simp }
  have r1 : w12.cell? ⟨w.heap.size + 1, 1, none⟩ = some (.slice a7 nr c7) := by { rw [← hW]; clear hW; go_simp }
  have hb12 : Below w.heap.size w w12 := by { rw [← hW]; have := HB5.out.trans (HX.out.mono HB5.out.size); (repeat' (first | (with_reducible exact Below.refl _ _) | (with_reducible assumption) | (with_reducible refine Below.drewN ?_ _) | (with_reducible refine Below.alloc ?_ ?_ _) | (with_reducible refine Below.drew ?_) | (with_reducible refine Below.setCell ?_ ?_ _) | (with_reducible refine Below.step (by assumption) ?_ ?_) | (with_reducible exact And.left (by assumption)) | go_size)) }
  have ho1 : w12.ownsRow w5.heap.size 3 1 (.slice a6 nf c6) nf (icells fs) := by { rw [← hW]; have := HI.out; (repeat' (first | (with_reducible assumption) | ((with_reducible refine owns_lit ?_ ?_ ?_ ?_) <;> first | (simp; done) | (simp; omega) | omega) | (with_reducible refine World.ownsRow.alloc ?_ _) | (with_reducible refine World.ownsRow.drew ?_) | (with_reducible refine owns_drewN ?_ _) | (with_reducible refine ownsRow_setCell_below ?_ ?_ _) | (simp; done) | (simp; omega) | omega)) }
  have ho2 : w12.ownsRow w5.heap.size 144 2 (.slice a7 nr c7) nr (pcells rs) := by { rw [← hW]; have := HP.out; (repeat' (first | (with_reducible assumption) | ((with_reducible refine owns_lit ?_ ?_ ?_ ?_) <;> first | (simp; done) | (simp; omega) | omega) | (with_reducible refine World.ownsRow.alloc ?_ _) | (with_reducible refine World.ownsRow.drew ?_) | (with_reducible refine owns_drewN ?_ _) | (with_reducible refine ownsRow_setCell_below ?_ ?_ _) | (simp; done) | (simp; omega) | omega)) }
  clear hW
  exact bodyPost_ret (v := .agg #[.slice a6 nf c6, .slice a7 nr c7]) (by simp [results, Tryz.results18, go_sem, r0, r1]) rfl ⟨a6, c6, a7, c7, rfl, hb12, SlR.of_owns ho1, SlR.of_owns ho2⟩
theorem askE_cases (s l : List T3) (fs : List Int) (rs : List (Int × Int)) : askE s l fs rs = if (netE s).2 ≠ 0 then (netE s).2 else if defsE s.length l ≠ 0 then defsE s.length l else if freE fs ≠ 0 then freE fs else if respsE rs ≠ 0 then respsE rs else if fs.length = rs.length then 0 else 10 := by
  unfold askE
  by_cases h1 : (netE s).2 = 0
  · by_cases h2 : defsE s.length l = 0
    · by_cases h3 : freE fs = 0
      · by_cases h4 : respsE rs = 0
        · by_cases h5 : fs.length = rs.length
          · rw [h1, h2, h3, h4, if_pos h5, h5]; simp [firstErr, unl]
          · rw [h1, h2, h3, h4, if_neg h5, show ((rs.length : Int) == (fs.length : Int)) = false by simp; omega]; simp [firstErr, unl]
        · rw [h1, h2, h3]; simp [firstErr, h4]
      · rw [h1, h2]; simp [firstErr, h3]
    · rw [h1]; simp [firstErr, h2]
  · simp [firstErr, h1]
set_option maxHeartbeats 1000000 in
set_option maxRecDepth 100000 in
theorem measuredErr_any (n c m cm nf cf nr cr : Nat) (a ap af ar : Option Addr) (s l : List T3) (fs : List Int) (rs : List (Int × Int)) (w : World) (hs : T3R w a n s) (hl : T3R w ap m l) (hf : IntsR w af nf fs) (hr : PairsR w ar nr rs) :
    Calls Tryz.prog 21 #[.agg #[.slice a n c], .slice ap m cm, .agg #[.slice af nf cf, .slice ar nr cr]] w fun e' w' => e' = .returned (.int .i64 (askE s l fs rs)) ∧ Below w.heap.size w w' := by
  have hn := hs.small
  have HNE := Lib.hid (fun (W : World) (hb : Below w.heap.size w W) => rNetworkErr_any s a n c W (hs.below hb))
  have HDE := Lib.hid (fun (W : World) (hb : Below w.heap.size w W) => rDeformationsErr_any n c m cm a ap l W hn (hl.below hb))
  have HFE := Lib.hid (fun (W : World) (hb : Below w.heap.size w W) => rFrequenciesErr_any fs af nf cf W (hf.below hb))
  have HRE := Lib.hid (fun (W : World) (hb : Below w.heap.size w W) => rResponsesErr_any rs ar nr cr W (hr.below hb))
  have hE := askE_cases s l fs rs
  rw [hs.len, hf.len, hr.len] at hE
  rw [hE]
  clear hs hl hf hr hn hE
  generalize (netE s).2 = e1 at *
  generalize defsE n l = e2 at *
  generalize freE fs = e3 at *
  generalize respsE rs = e4 at *
  go_enter Tryz.func21, Tryz.ntmps21
  go_wp2_with fail
  generalize hW : World.alloc _ _ = w5
  have hb5 : Below w.heap.size w w5 := by rw [← hW]; (repeat' (first | (with_reducible exact Below.refl _ _) | (with_reducible assumption) | (with_reducible refine Below.drewN ?_ _) | (with_reducible refine Below.alloc ?_ ?_ _) | (with_reducible refine Below.drew ?_) | (with_reducible refine Below.setCell ?_ ?_ _) | (with_reducible refine Below.step (by assumption) ?_ ?_) | (with_reducible exact And.left (by assumption)) | go_size))
  have q0 : w5.cell? ⟨w.heap.size, 0, none⟩ = some (.slice a n c) := by { rw [← hW]; clear hW; go_simp }
  have p0 : w5.cell? ⟨w.heap.size + 1, 0, none⟩ = some (.slice af nf cf) := by { rw [← hW]; clear hW; go_simp }
  have r0 : w5.cell? ⟨w.heap.size + 1, 1, none⟩ = some (.slice ar nr cr) := by { rw [← hW]; clear hW; go_simp }
  have l0 : w.heap.size + 1 < w5.heap.size := by { rw [← hW]; clear hW; simp }
  have HB := Lib.hid hb5
  clear hW hb5
  refine (HNE.out _ HB.out).mono ?_
  rintro x6 w6 ⟨rfl, hb6⟩
  have hzx := hb6.size
  have q1 : w6.cell? ⟨w.heap.size, 0, none⟩ = some (.slice a n c) := by { rw [cellB hb6 _ _ (by first | (simp; done) | (simp; omega) | omega)]; all_goals (first | assumption | go_simp) }; have p1 : w6.cell? ⟨w.heap.size + 1, 0, none⟩ = some (.slice af nf cf) := by { rw [cellB hb6 _ _ (by first | (simp; done) | (simp; omega) | omega)]; all_goals (first | assumption | go_simp) }; have r1 : w6.cell? ⟨w.heap.size + 1, 1, none⟩ = some (.slice ar nr cr) := by { rw [cellB hb6 _ _ (by first | (simp; done) | (simp; omega) | omega)]; all_goals (first | assumption | go_simp) }; have l1 : w.heap.size + 1 < w6.heap.size := by { omega }
  have HB := Lib.hid (HB.out.trans (hb6.mono HB.out.size))
  clear q0 p0 r0 l0 hzx hb6
  by_cases h1 : e1 = 0
  · subst h1
    go_wp2_with fail
    refine (HDE.out _ HB.out).mono ?_
    rintro x7 w7 ⟨rfl, hb7⟩
    have hzx := hb7.size
    have q0 : w7.cell? ⟨w.heap.size, 0, none⟩ = some (.slice a n c) := by { rw [cellB hb7 _ _ (by first | (simp; done) | (simp; omega) | omega)]; all_goals (first | assumption | go_simp) }; have p0 : w7.cell? ⟨w.heap.size + 1, 0, none⟩ = some (.slice af nf cf) := by { rw [cellB hb7 _ _ (by first | (simp; done) | (simp; omega) | omega)]; all_goals (first | assumption | go_simp) }; have r0 : w7.cell? ⟨w.heap.size + 1, 1, none⟩ = some (.slice ar nr cr) := by { rw [cellB hb7 _ _ (by first | (simp; done) | (simp; omega) | omega)]; all_goals (first | assumption | go_simp) }; have l0 : w.heap.size + 1 < w7.heap.size := by { omega }
    have HB := Lib.hid (HB.out.trans (hb7.mono HB.out.size))
    clear q1 p1 r1 l1 hzx hb7
    by_cases h2 : e2 = 0
    · subst h2
      go_wp2_with fail
      refine (HFE.out _ HB.out).mono ?_
      rintro x8 w8 ⟨rfl, hb8⟩
      have hzx := hb8.size
      have q1 : w8.cell? ⟨w.heap.size, 0, none⟩ = some (.slice a n c) := by { rw [cellB hb8 _ _ (by first | (simp; done) | (simp; omega) | omega)]; all_goals (first | assumption | go_simp) }; have p1 : w8.cell? ⟨w.heap.size + 1, 0, none⟩ = some (.slice af nf cf) := by { rw [cellB hb8 _ _ (by first | (simp; done) | (simp; omega) | omega)]; all_goals (first | assumption | go_simp) }; have r1 : w8.cell? ⟨w.heap.size + 1, 1, none⟩ = some (.slice ar nr cr) := by { rw [cellB hb8 _ _ (by first | (simp; done) | (simp; omega) | omega)]; all_goals (first | assumption | go_simp) }; have l1 : w.heap.size + 1 < w8.heap.size := by { omega }
      have HB := Lib.hid (HB.out.trans (hb8.mono HB.out.size))
      clear q0 p0 r0 l0 hzx hb8
      by_cases h3 : e3 = 0
      · subst h3
        go_wp2_with fail
        refine (HRE.out _ HB.out).mono ?_
        rintro x9 w9 ⟨rfl, hb9⟩
        have hzx := hb9.size
        have q0 : w9.cell? ⟨w.heap.size, 0, none⟩ = some (.slice a n c) := by { rw [cellB hb9 _ _ (by first | (simp; done) | (simp; omega) | omega)]; all_goals (first | assumption | go_simp) }; have p0 : w9.cell? ⟨w.heap.size + 1, 0, none⟩ = some (.slice af nf cf) := by { rw [cellB hb9 _ _ (by first | (simp; done) | (simp; omega) | omega)]; all_goals (first | assumption | go_simp) }; have r0 : w9.cell? ⟨w.heap.size + 1, 1, none⟩ = some (.slice ar nr cr) := by { rw [cellB hb9 _ _ (by first | (simp; done) | (simp; omega) | omega)]; all_goals (first | assumption | go_simp) }; have l0 : w.heap.size + 1 < w9.heap.size := by { omega }
        have HB := Lib.hid (HB.out.trans (hb9.mono HB.out.size))
        clear q1 p1 r1 l1 hzx hb9
        by_cases h4 : e4 = 0
        · subst h4
          by_cases h5 : nf = nr
          · subst h5
            go_wp2
            go_ret
            exact ⟨ret_int (by simp), HB.out⟩
          · have h6 : ((nf : Int) == (nr : Int)) = false := by simp; omega
            have h7 : ((nf : Int) != (nr : Int)) = true := by simp; omega
            go_wp2
            go_ret
            exact ⟨ret_int rfl, HB.out⟩
        · have h6 : (e4 != 0) = true := by simpa using h4
          go_wp2
          go_ret
          exact ⟨ret_int rfl, HB.out⟩
      · have h6 : (e3 != 0) = true := by simpa using h3
        go_wp2
        go_ret
        exact ⟨ret_int rfl, HB.out⟩
    · have h6 : (e2 != 0) = true := by simpa using h2
      go_wp2
      go_ret
      exact ⟨ret_int rfl, HB.out⟩
  · have h6 : (e1 != 0) = true := by simpa using h1
    go_wp2
    go_ret
    exact ⟨ret_int rfl, HB.out⟩
theorem freE_ok9 {l : List Int} (h2 : freE l = 0) : l.length ≤ 8 ∧ ∀ f ∈ l, 0 ≤ f ∧ f ≤ 6 := by
  unfold freE at h2
  obtain ⟨g1, g2⟩ := firstErr_cons.1 h2
  obtain ⟨g3, _⟩ := firstErr_cons.1 g2
  rw [unl_eq_zero (by omega)] at g1 g3
  rw [decide_eq_true_eq] at g1
  rw [Bool.not_eq_true', List.any_eq_false] at g3
  exact ⟨by omega, fun f hf => by have := g3 f hf; simpa [wi_iff] using this⟩
set_option maxHeartbeats 2000000 in
set_option maxRecDepth 100000 in
theorem rExplains_any (n c m cm nf cf nr cr q cq : Nat) (a ap af ar aq : Option Addr) (s l : List T3) (fs : List Int) (rs : List (Int × Int)) (S : List Nat) (w : World) (hs : T3R w a n s) (hl : T3R w ap m l) (hf : IntsR w af nf fs) (hr : PairsR w ar nr rs) (hS : IntsR w aq q (nats S)) (h0 : askE s l fs rs = 0) (hq : q ≤ 1000) (hlt : ∀ i ∈ S, i < m) :
    Calls Tryz.prog 25 #[.agg #[.slice a n c], .slice ap m cm, .agg #[.slice af nf cf, .slice ar nr cr], .slice aq q cq] w fun e' w' => e' = .returned (.bool (expB s l fs rs (nats S))) ∧ Below w.heap.size w w' := by
  have h1 := h0
  rw [askE_cases] at h1
  have g1 : (netE s).2 = 0 := by by_cases h : (netE s).2 = 0; exact h; simp [h] at h1
  have g2 : defsE s.length l = 0 := by by_cases h : defsE s.length l = 0; exact h; simp [g1, h] at h1
  have g3 : freE fs = 0 := by by_cases h : freE fs = 0; exact h; simp [g1, g2, h] at h1
  have k1 := netE_pos g1
  have k2 := defsE_zero g2
  rw [hs.len] at k2
  have k3 := freE_ok9 g3
  have hlf := hf.len
  have HD := Lib.hid (fun (W : World) (hb : Below w.heap.size w W) => rDeformed_any n c m cm q cq a ap aq s l S W (hs.below hb) (by have := hs.len; omega) (by have := hs.len; omega) k1.2.2 (hl.below hb) (hS.below hb) hq hlt k2.2)
  have hV : expB s l fs rs (nats S) = (decide ((netE (dfm s (pick l (nats S)))).2 = 0) && decide (fs.map (gPr (dfm s (pick l (nats S)))) = rs)) := rfl
  rw [hV]
  have hDN : (dfm s (pick l (nats S))).length = n := by rw [dfm_len]; exact hs.len
  have HDN := Lib.hid hDN
  generalize dfm s (pick l (nats S)) = D at *
  have HF := Lib.hid hf
  have HR := Lib.hid hr
  have HNE := Lib.hid (fun (a' : Option Addr) (c' : Nat) (W : World) (h : T3R W a' n D) => rNetworkErr_any D a' n c' W h)
  have HRS := Lib.hid (fun (h : (netE D).2 = 0) (a' : Option Addr) (c' : Nat) (W : World) (h1 : T3R W a' n D) (h2 : Below w.heap.size w W) => rResponses_any D fs a' af n c' nf cf W h1 (hf.below h2) (by have := (netE_pos h).2.1; omega) (netE_pos h).2.2 k3.2 (by omega))
  clear hs hl hf hr hS h0 h1 g1 g2 g3 k1 k2 k3 hV hDN hlf hq hlt
  generalize (netE D).2 = DE at *
  generalize fs.map (gPr D) = L at *
  go_enter Tryz.func25, Tryz.ntmps25
  go_wp2_with fail
  refine (HD.out _ (by (repeat' (first | (with_reducible exact Below.refl _ _) | (with_reducible assumption) | (with_reducible refine Below.drewN ?_ _) | (with_reducible refine Below.alloc ?_ ?_ _) | (with_reducible refine Below.drew ?_) | (with_reducible refine Below.setCell ?_ ?_ _) | (with_reducible refine Below.step (by assumption) ?_ ?_) | (with_reducible exact And.left (by assumption)) | go_size)))).mono ?_
  rintro x5 w5 ⟨a5, c5, rfl, hb5, ho5⟩
  have p0 : w5.cell? ⟨w.heap.size + 1, 0, none⟩ = some (.slice af nf cf) := by { rw [cellB hb5 _ _ (by first | (simp; done) | (simp; omega) | omega)]; all_goals (first | assumption | go_simp) }; have r0 : w5.cell? ⟨w.heap.size + 1, 1, none⟩ = some (.slice ar nr cr) := by { rw [cellB hb5 _ _ (by first | (simp; done) | (simp; omega) | omega)]; all_goals (first | assumption | go_simp) }
  have HB := Lib.hid (show Below w.heap.size w w5 from Below.trans (by (repeat' (first | (with_reducible exact Below.refl _ _) | (with_reducible assumption) | (with_reducible refine Below.drewN ?_ _) | (with_reducible refine Below.alloc ?_ ?_ _) | (with_reducible refine Below.drew ?_) | (with_reducible refine Below.setCell ?_ ?_ _) | (with_reducible refine Below.step (by assumption) ?_ ?_) | (with_reducible exact And.left (by assumption)) | go_size))) (hb5.mono (by simp; omega)))
  have z5 : w.heap.size + 1 < w5.heap.size := by have := hb5.size; simp at this; omega
  have ht5 : T3R w5 a5 n D := ER.of_owns HDN.out ho5
  clear hb5 ho5
  go_wp2_with fail
  generalize hW : World.alloc _ _ = w6
  have hb6 : Below w5.heap.size w5 w6 := by rw [← hW]; (repeat' (first | (with_reducible exact Below.refl _ _) | (with_reducible assumption) | (with_reducible refine Below.drewN ?_ _) | (with_reducible refine Below.alloc ?_ ?_ _) | (with_reducible refine Below.drew ?_) | (with_reducible refine Below.setCell ?_ ?_ _) | (with_reducible refine Below.step (by assumption) ?_ ?_) | (with_reducible exact And.left (by assumption)) | go_size))
  have y0 : w6.cell? ⟨w5.heap.size, 0, none⟩ = some (.slice a5 n c5) := by { rw [← hW]; clear hW; go_simp }
  have ly : w5.heap.size < w6.heap.size := by { rw [← hW]; clear hW; simp }
  have p1 : w6.cell? ⟨w.heap.size + 1, 0, none⟩ = some (.slice af nf cf) := by { rw [cellB hb6 _ _ (by first | (simp; done) | (simp; omega) | omega)]; all_goals (first | assumption | go_simp) }; have r1 : w6.cell? ⟨w.heap.size + 1, 1, none⟩ = some (.slice ar nr cr) := by { rw [cellB hb6 _ _ (by first | (simp; done) | (simp; omega) | omega)]; all_goals (first | assumption | go_simp) }
  have lp : w.heap.size + 1 < w6.heap.size := by omega
  have HB := Lib.hid (HB.out.trans (hb6.mono HB.out.size))
  have HT := Lib.hid (ht5.below hb6)
  obtain ⟨X, hX⟩ : ∃ X, X = w5.heap.size := ⟨_, rfl⟩
  rw [← hX] at y0 ly ⊢
  clear hW hb6 hX p0 r0 z5 ht5
  by_cases hD : DE = 0
  · have HRSa := Lib.hid (HRS.out hD)
    clear HRS
    subst hD
    refine wp_region_laterM (B := w6.heap.size) [(true, 0), (false, 1), (true, 2), (true, 3), (true, 4), (true, 5), (true, 6), (true, 8), (true, 9), (false, 7), (false, 10), (true, 11), (true, 12)] (by kernel_rfl) (by kernel_rfl) ?_; simp only [opsOf, List.filterMap_cons, List.filterMap_nil, List.getElem?_toArray, List.getElem?_cons_zero, List.getElem?_cons_succ, Option.map_some]
    repeat (refine mix_head ?_; (show wpQuiet _ _ _ _ (_ :: _) _; go_big_quiet_step (fail)); refine wpQuiet_nil ?_)
    refine mix_tail ?_; go_wp2_with fail
    refine (HNE.out a5 c5 _ (HT.out.below (Below.refl w6.heap.size w6).drew)).mono ?_
    rintro x7 w7 ⟨rfl, hb7⟩
    have HX := Lib.hid ((Below.refl w6.heap.size w6).drew.trans hb7)
    clear hb7
    go_wp2_with fail
    refine tailL_mk HX.out ?_
    repeat (refine mix_head ?_; (show wpQuiet _ _ _ _ (_ :: _) _; go_big_quiet_step (fail)); refine wpQuiet_nil ?_)
    refine mix_tail ?_; go_wp2_with fail
    refine (HRSa.out a5 c5 _ (HT.out.below HX.out) (HB.out.trans (HX.out.mono HB.out.size))).mono ?_
    rintro x8 w8 ⟨a8, c8, rfl, hb8, hp8⟩
    have HX := Lib.hid (HX.out.trans (hb8.mono HX.out.size))
    clear hb8
    go_wp2_with fail
    refine tailL_mk HX.out ?_
    repeat (refine mix_head ?_; (show wpQuiet _ _ _ _ (_ :: _) _; go_big_quiet_step (fail)); refine wpQuiet_nil ?_)
    refine mix_tail ?_; go_wp2_with fail
    refine (gausses_any _ _ _ _ _ _ _ _ _ hp8 (HR.out.below (HB.out.trans (HX.out.mono HB.out.size)))).mono ?_
    rintro x9 w9 ⟨rfl, nd, hw⟩
    have HX := Lib.hid (show Below w6.heap.size w6 w9 by rw [hw]; exact HX.out.drewN _)
    clear hp8 hw
    go_wp2_with fail
    refine tailL_mk HX.out ?_
    repeat (refine mix_head ?_; (show wpQuiet _ _ _ _ (_ :: _) _; go_big_quiet_step (fail)); refine wpQuiet_nil ?_)
    refine mix_nil ?_
    go_wp2
    go_ret
    exact ⟨ret_bool (by simp), HB.out.trans (HX.out.mono HB.out.size)⟩
  · have e1 : (DE == 0) = false := by simpa using hD
    have HE2 := Lib.hid (show decide (DE = 0) = false from decide_eq_false hD)
    clear hD
    refine wp_region_laterM (B := w6.heap.size) [(true, 0), (false, 1), (true, 2), (true, 3), (true, 4), (true, 5), (true, 6), (true, 8), (true, 9), (false, 7), (false, 10), (true, 11), (true, 12)] (by kernel_rfl) (by kernel_rfl) ?_; simp only [opsOf, List.filterMap_cons, List.filterMap_nil, List.getElem?_toArray, List.getElem?_cons_zero, List.getElem?_cons_succ, Option.map_some]
    repeat (refine mix_head ?_; (show wpQuiet _ _ _ _ (_ :: _) _; go_big_quiet_step (fail)); refine wpQuiet_nil ?_)
    refine mix_tail ?_; go_wp2_with fail
    refine (HNE.out a5 c5 _ (HT.out.below (Below.refl w6.heap.size w6).drew)).mono ?_
    rintro x7 w7 ⟨rfl, hb7⟩
    have HX := Lib.hid ((Below.refl w6.heap.size w6).drew.trans hb7)
    clear hb7
    go_wp2_with fail
    refine tailL_mk HX.out ?_
    repeat (refine mix_head ?_; (show wpQuiet _ _ _ _ (_ :: _) _; go_big_quiet_step (fail)); refine wpQuiet_nil ?_)
    refine mix_tail ?_; go_wp2_with fail
    refine tailL_mk HX.out ?_
    refine mix_tail ?_; go_wp2_with fail
    refine tailL_mk HX.out ?_
    repeat (refine mix_head ?_; (show wpQuiet _ _ _ _ (_ :: _) _; go_big_quiet_step (fail)); refine wpQuiet_nil ?_)
    refine mix_nil ?_
    go_wp2
    go_ret
    exact ⟨ret_bool (by rw [HE2.out]; rfl), HB.out.trans (HX.out.mono HB.out.size)⟩
end Go.Proofs.YthkekjgdknnaiaaGreat
