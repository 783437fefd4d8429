import Derived.Test.YtkphbibonagkfaaGreatDAwk
import Derived.Test.YtkphbibonagkfaaGreatDDef2
import Derived.Test.YtkphbibonagkfaaGreatRDfm
/- A network with changes: the statement's function. -/
namespace Go.Proofs.YtkphbibonagkfaaGreat
open Go.RowKit
set_option linter.unusedVariables false

theorem pick_all (l : List T3) : pick l (nats (List.range l.length)) = l := by
  unfold pick nats
  rw [List.map_map]
  refine List.ext_getElem? (fun i => ?_)
  rw [List.getElem?_map]
  rcases Nat.lt_or_ge i l.length with h | h
  · rw [List.getElem?_range h, List.getElem?_eq_getElem h]
    simp [pAt, List.getD, h]
  · rw [List.getElem?_eq_none (by simpa using h), List.getElem?_eq_none h]
    rfl
theorem defoE_cases (s l : List T3) : defoE s l = if (netE s).2 ≠ 0 then (netE s).2 else if defsE s.length l ≠ 0 then defsE s.length l else if (netE (dfm s l)).2 ≠ 0 then 22 else 0 := by
  unfold defoE
  by_cases h1 : (netE s).2 = 0
  · by_cases h2 : defsE s.length l = 0
    · rw [h1, h2]; simp [firstErr]
    · rw [h1]; simp [firstErr, h2]
  · simp [firstErr, h1]
set_option maxHeartbeats 2000000 in
set_option maxRecDepth 100000 in
theorem dfm_few (a ap : Option Addr) (n c m cm : Nat) (w : World) (hn : n ≤ 9223372036854775807) (hm : m ≤ 9223372036854775807) (h : ¬ (n ≤ 5 ∧ m ≤ 8)) :
    Calls Tryz.prog 4 #[.agg #[.slice a n c], .slice ap m cm] w fun e' w' => e' = .returned (.bool true) ∧ Below w.heap.size w w' := by
  have HF := Lib.hid (fun w' => fewSections9_any a n c w' hn)
  by_cases h1 : n ≤ 5
  · have h2 : ¬ m ≤ 8 := fun h2 => h ⟨h1, h2⟩
    rw [decide_eq_true h1] at HF
    have e2 : decide (8 < (m : Int)) = true := decide_eq_true (by omega)
    have e2' : (8 < (m : Int)) = True := by simp; omega
    clear h h1 h2
    go_enter Tryz.func4, Tryz.ntmps4
    go_wp2_with fail
    refine (awake9_any _).mono ?_
    rintro e5 w5 ⟨rfl, hb5⟩
    have p0 : w5.cell? ⟨w.heap.size, 0, none⟩ = some (.slice a n c) := by { rw [cellB hb5 _ _ (by first | (simp; done) | (simp; omega) | omega)]; all_goals (first | assumption | go_simp) }
    have HB5 := Lib.hid (show Below w.heap.size w w5 from Below.trans (by (repeat' (first | (with_reducible exact Below.refl _ _) | (with_reducible assumption) | (with_reducible refine Below.drewN ?_ _) | (with_reducible refine Below.alloc ?_ ?_ _) | (with_reducible refine Below.drew ?_) | (with_reducible refine Below.setCell ?_ ?_ _) | (with_reducible refine Below.step (by assumption) ?_ ?_) | (with_reducible exact And.left (by assumption)) | go_size))) (hb5.mono (by simp)))
    clear hb5
    go_wp2_with fail
    refine (HF.out _).mono ?_
    rintro e6 w6 ⟨rfl, hb6⟩
    have HB6 := Lib.hid (HB5.out.trans (hb6.mono HB5.out.size))
    clear hb6
    go_wp2
    go_ret
    exact ⟨rfl, HB6.out⟩
  · rw [decide_eq_false h1] at HF
    clear h h1
    go_enter Tryz.func4, Tryz.ntmps4
    go_wp2_with fail
    refine (awake9_any _).mono ?_
    rintro e5 w5 ⟨rfl, hb5⟩
    have p0 : w5.cell? ⟨w.heap.size, 0, none⟩ = some (.slice a n c) := by { rw [cellB hb5 _ _ (by first | (simp; done) | (simp; omega) | omega)]; all_goals (first | assumption | go_simp) }
    have HB5 := Lib.hid (show Below w.heap.size w w5 from Below.trans (by (repeat' (first | (with_reducible exact Below.refl _ _) | (with_reducible assumption) | (with_reducible refine Below.drewN ?_ _) | (with_reducible refine Below.alloc ?_ ?_ _) | (with_reducible refine Below.drew ?_) | (with_reducible refine Below.setCell ?_ ?_ _) | (with_reducible refine Below.step (by assumption) ?_ ?_) | (with_reducible exact And.left (by assumption)) | go_size))) (hb5.mono (by simp)))
    clear hb5
    go_wp2_with fail
    refine (HF.out _).mono ?_
    rintro e6 w6 ⟨rfl, hb6⟩
    have HB6 := Lib.hid (HB5.out.trans (hb6.mono HB5.out.size))
    clear hb6
    go_wp2
    go_ret
    exact ⟨rfl, HB6.out⟩
set_option maxHeartbeats 4000000 in
set_option maxRecDepth 100000 in
theorem dfm_main (s l : List T3) (a ap : Option Addr) (n c m cm : Nat) (w : World) (hs : T3R w a n s) (hl : T3R w ap m l) (h5 : n ≤ 5) (h8 : m ≤ 8) :
    Calls Tryz.prog 4 #[.agg #[.slice a n c], .slice ap m cm] w fun e' w' => e' = .returned (.bool true) ∧ Below w.heap.size w w' := by
  have HF := Lib.hid (fun w' => fewSections9_any a n c w' (by omega))
  rw [decide_eq_true h5] at HF
  have e2 : decide (8 < (m : Int)) = false := decide_eq_false (by omega)
  have e2' : (8 < (m : Int)) = False := by simp; omega
  have HC1 := Lib.hid (fun (W : World) (hb : Below w.heap.size w W) => copyNetwork_any s a n c W (hs.below hb) (by omega))
  have HC2 := Lib.hid (fun (W : World) (hb : Below w.heap.size w W) => copyDeformations_any l ap m cm W (hl.below hb) (by omega))
  have HSN := Lib.hid hs.len
  have HX := Lib.hid (fun (a1 a2 : Option Addr) (c1 c2 : Nat) (W : World) (h1 : T3R W a1 n s) (h2 : T3R W a2 m l) => deformedX_any n c1 m c2 a1 a2 s l W h1 (by omega) h2)
  have HN := Lib.hid (fun (W : World) (hb : Below w.heap.size w W) => rNetworkErr_any s a n c W (hs.below hb))
  have HD := Lib.hid (fun (W : World) (hb : Below w.heap.size w W) => rDeformationsErr_any n c m cm a ap l W (by omega) (hl.below hb))
  have HEV := Lib.hid (fun (W : World) => every_any ap m cm W (by omega))
  have HDF := Lib.hid (fun (h1 : (netE s).2 = 0) (h2 : defsE n l = 0) (aq : Option Addr) (cq : Nat) (W : World) (hb : Below w.heap.size w W) (hi : IntsR W aq m (nats (List.range m))) => show Calls Tryz.prog 30 #[.agg #[.slice a n c], .slice ap m cm, .slice aq m cq] W fun e' w' => ∃ a' c', e' = .returned (.agg #[.slice a' n c']) ∧ Below W.heap.size W w' ∧ w'.ownsRow W.heap.size 76 3 (.slice a' n c') n (ecells e3 (dfm s l)) by
    have k1 := netE_ok h1
    have k2 := defsE_zero h2
    have := rDeformed_any n c m cm m cq a ap aq s l (List.range m) W (hs.below hb) (by have := hs.len; omega) (by omega) k1.2.2 (hl.below hb) hi (by omega) (fun i hi => List.mem_range.1 hi) k2.2
    rw [show pick l (nats (List.range m)) = l by rw [← hl.len]; exact pick_all l] at this
    exact this)
  have hE := defoE_cases s l
  rw [hs.len] at hE
  have HSM := Lib.hid (fun (L : List T3) (a1 a2 : Option Addr) (n1 c1 n2 c2 : Nat) (W : World) (h1 : T3R W a1 n1 L) (h2 : T3R W a2 n2 L) => sameNetwork_any L L a1 a2 n1 c1 n2 c2 W h1 h2)
  clear hs hl h5 h8
  generalize defoE s l = E at *
  generalize defsE n l = e2v at *
  obtain ⟨D, hD⟩ : ∃ D, D = dfm s l := ⟨_, rfl⟩
  have hDN : D.length = n := by rw [hD, dfm_len]; exact HSN.out
  rw [← hD] at HX HDF hE
  clear hD
  have HDN := Lib.hid hDN
  have HNN := Lib.hid (fun (a' : Option Addr) (c' : Nat) (W : World) (h : T3R W a' n D) => rNetworkErr_any D a' n c' W h)
  clear hDN
  generalize (netE D).2 = G at *
  generalize (netE s).2 = e1 at *
  have HE := Lib.hid hE
  clear hE
  go_enter Tryz.func4, Tryz.ntmps4
  go_wp2_with fail
  generalize hW : World.alloc _ _ = w4
  have hb4 : Below w.heap.size w w4 := by rw [← hW]; (repeat' (first | (with_reducible exact Below.refl _ _) | (with_reducible assumption) | (with_reducible refine Below.drewN ?_ _) | (with_reducible refine Below.alloc ?_ ?_ _) | (with_reducible refine Below.drew ?_) | (with_reducible refine Below.setCell ?_ ?_ _) | (with_reducible refine Below.step (by assumption) ?_ ?_) | (with_reducible exact And.left (by assumption)) | go_size))
  have q0 : w4.cell? ⟨w.heap.size, 0, none⟩ = some (.slice a n c) := by { rw [← hW]; clear hW; go_simp }
  have l0 : w.heap.size < w4.heap.size := by { rw [← hW]; clear hW; simp }
  have HB := Lib.hid hb4
  clear hW hb4
  refine (awake9_any _).mono ?_
  rintro e5 w5 ⟨rfl, hb5⟩
  have hz5 := hb5.size
  have q0r : w5.cell? ⟨w.heap.size, 0, none⟩ = some (.slice a n c) := by { rw [cellB hb5 _ _ (by first | (simp; done) | (simp; omega) | omega)]; all_goals (first | assumption | go_simp) }; have l0r : w.heap.size < w5.heap.size := by { omega }
  have HB := Lib.hid (HB.out.trans (hb5.mono HB.out.size))
  clear hb5 hz5 q0 l0
  go_wp2_with fail
  refine (HF.out _).mono ?_
  rintro e6 w6 ⟨rfl, hb6⟩
  have hz6 := hb6.size
  have q0 : w6.cell? ⟨w.heap.size, 0, none⟩ = some (.slice a n c) := by { rw [cellB hb6 _ _ (by first | (simp; done) | (simp; omega) | omega)]; all_goals (first | assumption | go_simp) }; have l0 : w.heap.size < w6.heap.size := by { omega }
  have HB := Lib.hid (HB.out.trans (hb6.mono HB.out.size))
  clear hb6 hz6 q0r l0r
  go_wp2_with fail
  refine (HC1.out _ HB.out).mono ?_
  rintro e7 w7 ⟨a7, c7, rfl, hb7, ho7⟩
  have hz7 := hb7.size
  have q0r : w7.cell? ⟨w.heap.size, 0, none⟩ = some (.slice a n c) := by { rw [cellB hb7 _ _ (by first | (simp; done) | (simp; omega) | omega)]; all_goals (first | assumption | go_simp) }; have l0r : w.heap.size < w7.heap.size := by { omega }
  have HB := Lib.hid (HB.out.trans (hb7.mono HB.out.size))
  have ht7 : T3R w7 a7 n s := ER.of_owns HSN.out ho7
  clear hb7 hz7 q0 l0 ho7
  go_wp2_with fail
  refine (HC2.out _ HB.out).mono ?_
  rintro e8 w8 ⟨a8, c8, rfl, hb8, ht8⟩
  have hz8 := hb8.size
  have q0 : w8.cell? ⟨w.heap.size, 0, none⟩ = some (.slice a n c) := by { rw [cellB hb8 _ _ (by first | (simp; done) | (simp; omega) | omega)]; all_goals (first | assumption | go_simp) }; have l0 : w.heap.size < w8.heap.size := by { omega }
  have HB := Lib.hid (HB.out.trans (hb8.mono HB.out.size))
  have ht7 := ht7.below hb8
  clear hb8 hz8 q0r l0r
  go_wp2_with fail
  refine (HX.out a7 a8 c7 c8 _ ht7 ht8).mono ?_
  rintro e9 w9 ⟨a9, n9, c9, rfl, hb9, ht9⟩
  have hz9 := hb9.size
  have q0r : w9.cell? ⟨w.heap.size, 0, none⟩ = some (.slice a n c) := by { rw [cellB hb9 _ _ (by first | (simp; done) | (simp; omega) | omega)]; all_goals (first | assumption | go_simp) }; have l0r : w.heap.size < w9.heap.size := by { omega }
  have HB := Lib.hid (HB.out.trans (hb9.mono HB.out.size))
  clear hb9 hz9 q0 l0 ht7 ht8
  go_wp2_with fail
  generalize hW : World.alloc _ _ = wa
  have hba : Below w9.heap.size w9 wa := by rw [← hW]; (repeat' (first | (with_reducible exact Below.refl _ _) | (with_reducible assumption) | (with_reducible refine Below.drewN ?_ _) | (with_reducible refine Below.alloc ?_ ?_ _) | (with_reducible refine Below.drew ?_) | (with_reducible refine Below.setCell ?_ ?_ _) | (with_reducible refine Below.step (by assumption) ?_ ?_) | (with_reducible exact And.left (by assumption)) | go_size))
  have t0 : wa.cell? ⟨w9.heap.size, 0, none⟩ = some (.slice a9 n9 c9) := by { rw [← hW]; clear hW; go_simp }
  have t1 : w9.heap.size < wa.heap.size := by { rw [← hW]; clear hW; simp }
  have hza := hba.size
  have q0 : wa.cell? ⟨w.heap.size, 0, none⟩ = some (.slice a n c) := by { rw [cellB hba _ _ (by first | (simp; done) | (simp; omega) | omega)]; all_goals (first | assumption | go_simp) }; have l0 : w.heap.size < wa.heap.size := by { omega }
  have HB := Lib.hid (HB.out.trans (hba.mono HB.out.size))
  have HT := Lib.hid (ht9.below hba)
  have HQ := Lib.hid hba
  have HT9 := Lib.hid ht9
  obtain ⟨X5, hX5⟩ : ∃ X, X = w9.heap.size := ⟨_, rfl⟩
  have HX5 := Lib.hid hX5
  rw [← hX5] at t0 t1 ⊢
  have x5 : w.heap.size < X5 := by omega
  clear hW hba hza q0r l0r ht9 hX5
  refine (HN.out _ HB.out).mono ?_
  rintro eb wb ⟨rfl, hbb⟩
  have hzb := hbb.size
  have q0r : wb.cell? ⟨w.heap.size, 0, none⟩ = some (.slice a n c) := by { rw [cellB hbb _ _ (by first | (simp; done) | (simp; omega) | omega)]; all_goals (first | assumption | go_simp) }; have t0r : wb.cell? ⟨X5, 0, none⟩ = some (.slice a9 n9 c9) := by { rw [cellB hbb _ _ (by first | (simp; done) | (simp; omega) | omega)]; all_goals (first | assumption | go_simp) }; have l0r : w.heap.size < wb.heap.size := by { omega }; have t1r : X5 < wb.heap.size := by { omega }
  have HB := Lib.hid (HB.out.trans (hbb.mono HB.out.size))
  have HT := Lib.hid (HT.out.below hbb)
  have HQ := Lib.hid (HQ.out.trans (hbb.mono HQ.out.size))
  clear hbb hzb q0 l0 t0 t1
  by_cases h1 : e1 = 0
  · subst h1
    go_wp2_with fail
    refine (HD.out _ HB.out).mono ?_
    rintro ec wc ⟨rfl, hbc⟩
    have hzc := hbc.size
    have q0 : wc.cell? ⟨w.heap.size, 0, none⟩ = some (.slice a n c) := by { rw [cellB hbc _ _ (by first | (simp; done) | (simp; omega) | omega)]; all_goals (first | assumption | go_simp) }; have t0 : wc.cell? ⟨X5, 0, none⟩ = some (.slice a9 n9 c9) := by { rw [cellB hbc _ _ (by first | (simp; done) | (simp; omega) | omega)]; all_goals (first | assumption | go_simp) }; have l0 : w.heap.size < wc.heap.size := by { omega }; have t1 : X5 < wc.heap.size := by { omega }
    have HB := Lib.hid (HB.out.trans (hbc.mono HB.out.size))
    have HT := Lib.hid (HT.out.below hbc)
    have HQ := Lib.hid (HQ.out.trans (hbc.mono HQ.out.size))
    clear hbc hzc q0r l0r t0r t1r
    by_cases h2 : e2v = 0
    · subst h2
      have HDX := Lib.hid (HDF.out (by first | rfl | trivial) (by first | rfl | trivial))
      go_wp2_with fail
      generalize hW : World.alloc _ _ = wd
      have hbd : Below wc.heap.size wc wd := by rw [← hW]; (repeat' (first | (with_reducible exact Below.refl _ _) | (with_reducible assumption) | (with_reducible refine Below.drewN ?_ _) | (with_reducible refine Below.alloc ?_ ?_ _) | (with_reducible refine Below.drew ?_) | (with_reducible refine Below.setCell ?_ ?_ _) | (with_reducible refine Below.step (by assumption) ?_ ?_) | (with_reducible exact And.left (by assumption)) | go_size))
      have u0 : wd.cell? ⟨wc.heap.size, 0, none⟩ = some (.slice none 0 0) := by { rw [← hW]; clear hW; go_simp }
      have f0 : wd.frozen? ⟨wc.heap.size, 0, none⟩ = false := by { rw [← hW]; clear hW; go_simp }
      have zd : wd.heap.size = wc.heap.size + 1 := by { rw [← hW]; clear hW; simp }
      obtain ⟨X8, hX8⟩ : ∃ X, X = wc.heap.size := ⟨_, rfl⟩
      rw [← hX8] at u0 f0 zd ⊢
      have x8 : X8 < wd.heap.size := by omega
      have x58 : X5 < X8 := by omega
      have q0d : wd.cell? ⟨w.heap.size, 0, none⟩ = some (.slice a n c) := by { rw [cellB hbd _ _ (by first | (simp; done) | (simp; omega) | omega)]; all_goals (first | assumption | go_simp) }; have t0d : wd.cell? ⟨X5, 0, none⟩ = some (.slice a9 n9 c9) := by { rw [cellB hbd _ _ (by first | (simp; done) | (simp; omega) | omega)]; all_goals (first | assumption | go_simp) }; have l0d : w.heap.size < wd.heap.size := by { omega }; have t1d : X5 < wd.heap.size := by { omega }
      have HB := Lib.hid (HB.out.trans (hbd.mono HB.out.size))
      have HQ := Lib.hid (HQ.out.trans (hbd.mono HQ.out.size))
      have ok0 : OkB w.heap.size wd.heap.size X8 := ⟨by omega, by omega⟩
      have ok5 : OkB X5 wd.heap.size X8 := ⟨by omega, by omega⟩
      have HZ := Lib.hid zd
      clear hW hbd zd hX8 q0 l0 t0 t1
      refine wp_region_laterC (B := wd.heap.size) (b0 :=  X8) [(true, 0), (true, 1), (true, 2), (false, 3), (false, 4), (false, 5)] (by kernel_rfl) (by kernel_rfl) ?_; simp only [opsOf, List.filterMap_cons, List.filterMap_nil, List.getElem?_toArray, List.getElem?_cons_zero, List.getElem?_cons_succ, Option.map_some]
      repeat (refine mixc_head ?_; (show wpQuiet _ _ _ _ (_ :: _) _; go_big_quiet_step (fail)); refine wpQuiet_nil ?_)
      refine mixc_tail ?_; go_wp2_with fail
      refine (HEV.out _).mono ?_
      rintro e10 we ⟨ae, ce, rfl, hbe, hie⟩
      have HXX := Lib.hid ((Below.refl wd.heap.size wd).drew.trans hbe)
      clear hbe
      go_wp2_with fail
      refine tailC_stay (SameX.of_below HXX.out) ?_
      have HZE := Lib.hid HXX.out.size
      refine mixc_tail ?_; go_wp2_with fail
      refine (HDX.out ae ce _ (HB.out.trans (HXX.out.mono HB.out.size)) hie).mono ?_
      rintro e11 wf ⟨af, cf, rfl, hbf, hof⟩
      have HOF := Lib.hid hof
      have HXX := Lib.hid (HXX.out.trans (hbf.mono HXX.out.size))
      have hbx := HXX.out
      have hzx := hbx.size
      have hze : wd.heap.size ≤ we.heap.size := HZE.out
      have u0f : wf.cell? ⟨X8, 0, none⟩ = some (.slice none 0 0) := by { rw [cellB hbx _ _ (by first | (simp; done) | (simp; omega) | omega)]; all_goals (first | assumption | go_simp) }; have f0f : wf.frozen? ⟨X8, 0, none⟩ = false := by { rw [frozenB hbx _ _ (by first | (simp; done) | (simp; omega) | omega)]; all_goals (first | assumption | go_simp) }; have x8f : X8 < wf.heap.size := by { omega }
      have HQ := Lib.hid (HQ.out.trans (hbx.mono HQ.out.size))
      have HBf := Lib.hid (HB.out.trans (hbx.mono HB.out.size))
      have q0f : wf.cell? ⟨w.heap.size, 0, none⟩ = some (.slice a n c) := by { rw [cellB hbx _ _ (by first | (simp; done) | (simp; omega) | omega)]; all_goals (first | assumption | go_simp) }; have t0f : wf.cell? ⟨X5, 0, none⟩ = some (.slice a9 n9 c9) := by { rw [cellB hbx _ _ (by first | (simp; done) | (simp; omega) | omega)]; all_goals (first | assumption | go_simp) }; have l0f : w.heap.size < wf.heap.size := by { omega }; have t1f : X5 < wf.heap.size := by { omega }
      clear hbf hie hbx hof q0d t0d l0d t1d
      go_wp2_with fail
      refine tailC_stay (SameX.of_below HXX.out) ?_
      refine mixc_tail ?_; go_wp2_with fail
      refine tailC_stay (.set (SameX.of_below HXX.out) _) ?_
      refine mixc_nil ?_
      generalize hW : World.setCell _ _ _ = wz
      have hbz : Below w.heap.size w wz := by { rw [← hW]; have := HBf.out; (repeat' (first | (with_reducible exact Below.refl _ _) | (with_reducible assumption) | (with_reducible refine Below.drewN ?_ _) | (with_reducible refine Below.alloc ?_ ?_ _) | (with_reducible refine Below.drew ?_) | (with_reducible refine Below.setCell ?_ ?_ _) | (with_reducible refine Below.step (by assumption) ?_ ?_) | (with_reducible exact And.left (by assumption)) | go_size)) }
      have uz : wz.cell? ⟨X8, 0, none⟩ = some (.slice af n cf) := by { rw [← hW]; clear hW; go_simp }
      have fz : wz.frozen? ⟨X8, 0, none⟩ = false := by { rw [← hW]; clear hW; go_simp }
      have tz : wz.cell? ⟨X5, 0, none⟩ = some (.slice a9 n9 c9) := by { rw [← hW]; clear hW; go_simp }
      have xz : X8 < wz.heap.size := by { rw [← hW]; clear hW; simp; omega }
      have x5z : X5 < wz.heap.size := by omega
      have HTz := Lib.hid (HT9.out.below (show Below w9.heap.size w9 wz by { rw [← hW]; exact HQ.out.setCell (show w9.heap.size ≤ X8 by have := HX5.out; omega) _ }))
      have HDz := Lib.hid (show T3R wz af n D from ER.of_owns HDN.out (by { rw [← hW]; exact ownsRow_setCell_below HOF.out (show X8 < _ by omega) _ }))
      have HBz := Lib.hid hbz
      clear hW hbz u0f f0f x8f q0f t0f l0f t1f HXX HOF HBf HQ HT9 HZE
      go_wp2_with fail
      refine (HNN.out af cf wz HDz.out).mono ?_
      rintro e12 wy ⟨rfl, hby⟩
      have hzy := hby.size
      have uy : wy.cell? ⟨X8, 0, none⟩ = some (.slice af n cf) := by { rw [cellB hby _ _ (by first | (simp; done) | (simp; omega) | omega)]; all_goals (first | assumption | go_simp) }; have ty : wy.cell? ⟨X5, 0, none⟩ = some (.slice a9 n9 c9) := by { rw [cellB hby _ _ (by first | (simp; done) | (simp; omega) | omega)]; all_goals (first | assumption | go_simp) }; have fy : wy.frozen? ⟨X8, 0, none⟩ = false := by { rw [frozenB hby _ _ (by first | (simp; done) | (simp; omega) | omega)]; all_goals (first | assumption | go_simp) }; have xy : X8 < wy.heap.size := by { omega }; have x5y : X5 < wy.heap.size := by { omega }
      have HBy := Lib.hid (HBz.out.trans (hby.mono HBz.out.size))
      have HTy := Lib.hid (HTz.out.below hby)
      have HDy := Lib.hid (HDz.out.below hby)
      clear hby hzy uz fz tz xz x5z HBz HTz HDz
      have hE := HE.out
      rw [if_neg (by decide), if_neg (by decide)] at hE
      by_cases hG : G = 0
      · rw [if_neg (by rw [hG]; decide)] at hE
        have e4 : (E == 0) = true := by simpa using hE
        rw [if_pos hE] at HTy
        subst hG
        clear HE
        go_wp2_with fail
        refine (HSM.out D a9 af n9 c9 n cf _ HTy.out HDy.out).mono ?_
        rintro e13 wx ⟨rfl, hbx⟩
        go_wp2
        go_ret
        exact ⟨ret_bool (by simp), HBy.out.trans (hbx.mono HBy.out.size)⟩
      · rw [if_pos hG] at hE
        have e4 : (E == 22) = true := by simpa using hE
        have e5 : (G != 0) = true := by simpa using hG
        rw [if_neg (by rw [hE]; decide)] at HTy
        clear HE hG
        go_wp2_with fail
        generalize hW : World.setCell _ _ _ = wx
        have hTx : T3R wx a9 n9 [] := by { have := HTy.out; have hl := this.1; simp at hl; subst hl; exact ER.nil _ _ }
        have hbx : Below w.heap.size w wx := by { rw [← hW]; have := HBy.out; (repeat' (first | (with_reducible exact Below.refl _ _) | (with_reducible assumption) | (with_reducible refine Below.drewN ?_ _) | (with_reducible refine Below.alloc ?_ ?_ _) | (with_reducible refine Below.drew ?_) | (with_reducible refine Below.setCell ?_ ?_ _) | (with_reducible refine Below.step (by assumption) ?_ ?_) | (with_reducible exact And.left (by assumption)) | go_size)) }
        refine (HSM.out [] a9 none n9 c9 0 0 _ hTx (ER.nil _ _)).mono ?_
        rintro e13 wv ⟨rfl, hbv⟩
        go_wp2
        go_ret
        exact ⟨ret_bool (by simp), hbx.trans (hbv.mono hbx.size)⟩
    · have hE := HE.out
      rw [if_neg (by decide), if_pos h2] at hE
      have e3 : (e2v == 0) = false := by simpa using h2
      have e4 : (E == e2v) = true := by simpa using hE
      rw [if_neg (by rw [hE]; exact h2)] at HT
      clear HE hE h2
      go_wp2_with fail
      refine (HSM.out [] a9 none n9 c9 0 0 _ (HT.out.below (by (repeat' (first | (with_reducible exact Below.refl _ _) | (with_reducible assumption) | (with_reducible refine Below.drewN ?_ _) | (with_reducible refine Below.alloc ?_ ?_ _) | (with_reducible refine Below.drew ?_) | (with_reducible refine Below.setCell ?_ ?_ _) | (with_reducible refine Below.step (by assumption) ?_ ?_) | (with_reducible exact And.left (by assumption)) | go_size)))) (ER.nil _ _)).mono ?_
      rintro ed wd ⟨rfl, hbd⟩
      go_wp2
      go_ret
      exact ⟨ret_bool (by simp), (HB.out.alloc HB.out.size _).trans (hbd.mono (by have := HB.out.size; simp; omega))⟩
  · have hE := HE.out
    rw [if_pos h1] at hE
    have e3 : (e1 == 0) = false := by simpa using h1
    have e4 : (E == e1) = true := by simpa using hE
    rw [if_neg (by rw [hE]; exact h1)] at HT
    clear HE hE h1
    go_wp2_with fail
    refine (HSM.out [] a9 none n9 c9 0 0 _ (HT.out.below (by (repeat' (first | (with_reducible exact Below.refl _ _) | (with_reducible assumption) | (with_reducible refine Below.drewN ?_ _) | (with_reducible refine Below.alloc ?_ ?_ _) | (with_reducible refine Below.drew ?_) | (with_reducible refine Below.setCell ?_ ?_ _) | (with_reducible refine Below.step (by assumption) ?_ ?_) | (with_reducible exact And.left (by assumption)) | go_size)))) (ER.nil _ _)).mono ?_
    rintro ed wd ⟨rfl, hbd⟩
    go_wp2
    go_ret
    exact ⟨ret_bool (by simp), (HB.out.alloc HB.out.size _).trans (hbd.mono (by have := HB.out.size; simp; omega))⟩
theorem dfm_walk (s : List T3) (a : Option Addr) (n c : Nat) (l : List T3) (ap : Option Addr) (m cm : Nat) (w : World) (hs : T3R w a n s) (hl : T3R w ap m l) :
    Calls Tryz.prog 4 #[.agg #[.slice a n c], .slice ap m cm] w fun e' w' => e' = .returned (.bool true) ∧ Below w.heap.size w w' := by
  by_cases h : n ≤ 5 ∧ m ≤ 8
  · exact dfm_main s l a ap n c m cm w hs hl h.1 h.2
  · exact dfm_few a ap n c m cm w hs.small hl.small h
end Go.Proofs.YtkphbibonagkfaaGreat
