import Derived.Test.YtkphbibonagkfaaGreatDDfmd
import Derived.Test.YtkphbibonagkfaaGreatMPlainFrac
import Derived.Test.YtkphbibonagkfaaGreatMSched
/- A network that is changed, with the errors: the program's function. -/
namespace Go.Proofs.YtkphbibonagkfaaGreat
open Go.RowKit
set_option linter.unusedVariables false

def defoE (s l : List T3) : Int := if firstErr [(netE s).2, defsE s.length l] ≠ 0 then firstErr [(netE s).2, defsE s.length l] else if (netE (dfm s l)).2 ≠ 0 then 22 else 0
theorem netE_ok {s : List T3} (h : (netE s).2 = 0) : 0 < s.length ∧ s.length ≤ 3 ∧ ∀ p ∈ s, secB p = true := by
  unfold netE at h
  by_cases h0 : netH s.length ≠ 0
  · rw [if_pos h0] at h; exact absurd h h0
  · rw [if_neg h0] at h
    have h1 := Decidable.not_not.1 h0
    unfold netH at h1
    obtain ⟨h2, h3⟩ := firstErr_cons.1 h1
    obtain ⟨h4, _⟩ := firstErr_cons.1 h3
    rw [unl_eq_zero (by omega), decide_eq_true_eq] at h2 h4
    refine ⟨by omega, by omega, fun p hp => ?_⟩
    by_cases h5 : 0 ≤ idxFrom (fun p => !secB p) s 0
    · rw [if_pos h5] at h; simp at h
    · have := idxFrom_any (fun p => !secB p) s 0
      have hf : s.any (fun p => !secB p) = false := by rw [← this]; simp; omega
      rw [List.any_eq_false] at hf
      simpa using hf p hp
set_option maxHeartbeats 2000000 in
set_option maxRecDepth 100000 in
theorem deformedX_any (n c m cm : Nat) (a ap : Option Addr) (s l : List T3) (w : World) (hs : T3R w a n s) (hn : n ≤ 100000) (hl : T3R w ap m l) :
    Calls Tryz.prog 25 #[.agg #[.slice a n c], .slice ap m cm] w fun e' w' => ∃ a' n' c', e' = .returned (.tuple #[.agg #[.slice a' n' c'], .int .i64 (defoE s l)]) ∧ Below w.heap.size w w' ∧ T3R w' a' n' (if defoE s l = 0 then dfm s l else []) := by
  have hm := hl.small
  have HN := Lib.hid (fun (w' : World) (hb : Below w.heap.size w w') => networkErr_any s a n c w' (hs.below hb))
  have HD := Lib.hid (fun (w' : World) (hb : Below w.heap.size w w') => deformationsErr_any n c m cm a ap l w' (by omega) (hl.below hb))
  have HSN := Lib.hid hs.len
  have HDD := Lib.hid (fun (h : firstErr [(netE s).2, defsE n l] = 0) (W : World) (hb : Below w.heap.size w W) => show Calls Tryz.prog 101 #[.agg #[.slice a n c], .slice ap m cm] W fun e' w' => ∃ a' c', e' = .returned (.agg #[.slice a' n c']) ∧ Below W.heap.size W w' ∧ w'.ownsRow W.heap.size 76 3 (.slice a' n c') n (ecells e3 (dfm s l)) by
    obtain ⟨h1, h2⟩ := firstErr_cons.1 h
    obtain ⟨h2, _⟩ := firstErr_cons.1 h2
    have k1 := netE_ok h1
    have k2 := defsE_zero h2
    exact deformed_any n c m cm a ap s l W (hs.below hb) (by have := hs.len; omega) hn k1.2.2 (hl.below hb) (by have := hl.len; omega) k2.2)
  have hV : defoE s l = if firstErr [(netE s).2, defsE n l] ≠ 0 then firstErr [(netE s).2, defsE n l] else if (netE (dfm s l)).2 ≠ 0 then 22 else 0 := by unfold defoE; rw [hs.len]
  have HLD := Lib.hid (show (dfm s l).length = n by rw [dfm_len]; exact hs.len)
  clear hs hl
  generalize (netE s).2 = e1 at *
  generalize defsE n l = e2 at *
  obtain ⟨D, hD⟩ : ∃ D, D = dfm s l := ⟨_, rfl⟩
  rw [← hD] at HDD HLD hV ⊢
  clear hD
  obtain ⟨V, hVV⟩ : ∃ V, V = defoE s l := ⟨_, rfl⟩
  rw [← hVV] at hV ⊢
  clear hVV
  obtain ⟨E, hE⟩ : ∃ E, E = firstErr [e1, e2] := ⟨_, rfl⟩
  rw [← hE] at HDD hV
  have HE := Lib.hid hE
  clear hE
  by_cases h0 : E = 0
  · rw [if_neg (by rw [h0]; decide)] at hV
    have HDX := Lib.hid (HDD.out h0)
    subst h0
    clear HDD
    by_cases hG : (netE D).2 = 0
    · rw [if_neg (by rw [hG]; decide)] at hV
      subst hV
      rw [if_pos rfl]
      have HND := Lib.hid (fun (a' : Option Addr) (c' : Nat) (W : World) (h : T3R W a' n D) => networkErr_any D a' n c' W h)
      rw [hG] at HND
      clear hG
      go_enter Tryz.func25, Tryz.ntmps25
      go_wp2_with fail
      generalize hW : World.alloc _ _ = w5
      have hb5 : Below w.heap.size w w5 := by rw [← hW]; (repeat' (first | (with_reducible exact Below.refl _ _) | (with_reducible assumption) | (with_reducible refine Below.drewN ?_ _) | (with_reducible refine Below.alloc ?_ ?_ _) | (with_reducible refine Below.drew ?_) | (with_reducible refine Below.setCell ?_ ?_ _) | (with_reducible refine Below.step (by assumption) ?_ ?_) | (with_reducible exact And.left (by assumption)) | go_size))
      have q0 : w5.cell? ⟨w.heap.size, 0, none⟩ = some (.slice a n c) := by { rw [← hW]; clear hW; go_simp }
      have z0 : w5.cell? ⟨w.heap.size + 1, 0, none⟩ = some (.slice none 0 0) := by { rw [← hW]; clear hW; go_simp }
      have f0 : w5.frozen? ⟨w.heap.size + 1, 0, none⟩ = false := by { rw [← hW]; clear hW; go_simp }
      have l1 : w.heap.size + 1 < w5.heap.size := by { rw [← hW]; clear hW; simp }
      have l0 : w.heap.size < w5.heap.size := by omega
      have HB5 := Lib.hid hb5
      clear hW hb5
      refine wp_region_laterM (B := w5.heap.size) [(true, 0), (true, 2), (true, 3), (false, 1), (false, 4), (false, 5), (false, 6), (true, 7)] (by kernel_rfl) (by kernel_rfl) ?_; simp only [opsOf, List.filterMap_cons, List.filterMap_nil, List.getElem?_toArray, List.getElem?_cons_zero, List.getElem?_cons_succ, Option.map_some]
      repeat (refine mix_head ?_; (show wpQuiet _ _ _ _ (_ :: _) _; go_big_quiet_step (fail)); refine wpQuiet_nil ?_)
      refine mix_tail ?_; go_wp2_with fail
      refine (HN.out _ HB5.out.drew).mono ?_
      rintro e6 w6 ⟨rfl, hb6⟩
      have HX := Lib.hid ((Below.refl w5.heap.size w5).drew.trans hb6)
      clear hb6
      go_wp2_with fail
      refine tailL_mk HX.out ?_
      refine mix_tail ?_; go_wp2_with fail
      refine (HD.out _ (HB5.out.trans (HX.out.mono HB5.out.size))).mono ?_
      rintro e7 w7 ⟨rfl, hb7⟩
      have HX := Lib.hid (HX.out.trans (hb7.mono HX.out.size))
      clear hb7
      go_wp2_with fail
      refine tailL_mk HX.out ?_
      refine mix_tail ?_; go_wp2_with fail
      refine tailL_mk (HX.out.alloc HX.out.size _) ?_
      refine mix_tail ?_; go_wp2_with fail
      have HX := Lib.hid (HX.out.alloc HX.out.size (Obj.cells #[.int .i64 e1, .int .i64 e2] 32))
      refine (d_first2 _ _ _ _ _ _ (by rfl) (by simp)).mono ?_
      rintro e8 w8 ⟨rfl, hw8⟩
      rw [hw8] at HX
      rw [← HE.out]
      clear hw8
      go_wp2_with fail
      refine tailL_mk HX.out ?_
      repeat (refine mix_head ?_; (show wpQuiet _ _ _ _ (_ :: _) _; go_big_quiet_step (fail)); refine wpQuiet_nil ?_)
      refine mix_nil ?_
      have hbx := HX.out
      have hzx := hbx.size
      have q0d : w8.cell? ⟨w.heap.size, 0, none⟩ = some (.slice a n c) := by { rw [cellB hbx _ _ (by first | (simp; done) | (simp; omega) | omega)]; all_goals (first | assumption | go_simp) }; have z0d : w8.cell? ⟨w.heap.size + 1, 0, none⟩ = some (.slice none 0 0) := by { rw [cellB hbx _ _ (by first | (simp; done) | (simp; omega) | omega)]; all_goals (first | assumption | go_simp) }; have f0d : w8.frozen? ⟨w.heap.size + 1, 0, none⟩ = false := by { rw [frozenB hbx _ _ (by first | (simp; done) | (simp; omega) | omega)]; all_goals (first | assumption | go_simp) }; have l0d : w.heap.size < w8.heap.size := by { omega }; have l1d : w.heap.size + 1 < w8.heap.size := by { omega }
      have HB8 := Lib.hid (HB5.out.trans (hbx.mono HB5.out.size))
      clear hbx hzx HX HB5 q0 z0 f0 l0 l1
      go_wp2_with fail
      refine (HDX.out _ HB8.out).mono ?_
      rintro e9 w9 ⟨a9, c9, rfl, hb9, ho9⟩
      have hz9 := hb9.size
      have z0 : w9.cell? ⟨w.heap.size + 1, 0, none⟩ = some (.slice none 0 0) := by { rw [cellB hb9 _ _ (by first | (simp; done) | (simp; omega) | omega)]; all_goals (first | assumption | go_simp) }; have f0 : w9.frozen? ⟨w.heap.size + 1, 0, none⟩ = false := by { rw [frozenB hb9 _ _ (by first | (simp; done) | (simp; omega) | omega)]; all_goals (first | assumption | go_simp) }; have l1 : w.heap.size + 1 < w9.heap.size := by { omega }
      have HB9 := Lib.hid (HB8.out.trans (hb9.mono HB8.out.size))
      have HO9 := Lib.hid ho9
      have lB : w.heap.size + 1 < w8.heap.size := by omega
      clear hb9 ho9 q0d z0d f0d l0d l1d
      go_wp2_with fail
      generalize hW : World.alloc _ _ = wa
      have hba : Below w9.heap.size w9 wa := by rw [← hW]; (repeat' (first | (with_reducible exact Below.refl _ _) | (with_reducible assumption) | (with_reducible refine Below.drewN ?_ _) | (with_reducible refine Below.alloc ?_ ?_ _) | (with_reducible refine Below.drew ?_) | (with_reducible refine Below.setCell ?_ ?_ _) | (with_reducible refine Below.step (by assumption) ?_ ?_) | (with_reducible exact And.left (by assumption)) | go_size))
      have t0 : wa.cell? ⟨w9.heap.size, 0, none⟩ = some (.slice a9 n c9) := by { rw [← hW]; clear hW; go_simp }
      have la : w9.heap.size < wa.heap.size := by { rw [← hW]; clear hW; simp }
      have z1 : wa.cell? ⟨w.heap.size + 1, 0, none⟩ = some (.slice none 0 0) := by { rw [cellB hba _ _ (by first | (simp; done) | (simp; omega) | omega)]; all_goals (first | assumption | go_simp) }; have f1 : wa.frozen? ⟨w.heap.size + 1, 0, none⟩ = false := by { rw [frozenB hba _ _ (by first | (simp; done) | (simp; omega) | omega)]; all_goals (first | assumption | go_simp) }
      have l2 : w.heap.size + 1 < wa.heap.size := by omega
      have HOa := Lib.hid (owns_below HO9.out hba (fun z hz => (HO9.out.lt z hz).2))
      have HBa := Lib.hid (HB9.out.trans (hba.mono HB9.out.size))
      have HTa := Lib.hid (show T3R wa a9 n D from ER.of_owns HLD.out HOa.out)
      obtain ⟨X7, hX7⟩ : ∃ X, X = w9.heap.size := ⟨_, rfl⟩
      rw [← hX7] at t0 la ⊢
      have l17 : w.heap.size + 1 < X7 := by omega
      clear hW hba z0 f0 l1 hX7 hz9 HO9
      refine (HND.out a9 c9 wa HTa.out).mono ?_
      rintro eb wb ⟨rfl, hbb⟩
      have hzb := hbb.size
      have t0b : wb.cell? ⟨X7, 0, none⟩ = some (.slice a9 n c9) := by { rw [cellB hbb _ _ (by first | (simp; done) | (simp; omega) | omega)]; all_goals (first | assumption | go_simp) }; have z0 : wb.cell? ⟨w.heap.size + 1, 0, none⟩ = some (.slice none 0 0) := by { rw [cellB hbb _ _ (by first | (simp; done) | (simp; omega) | omega)]; all_goals (first | assumption | go_simp) }; have f0 : wb.frozen? ⟨w.heap.size + 1, 0, none⟩ = false := by { rw [frozenB hbb _ _ (by first | (simp; done) | (simp; omega) | omega)]; all_goals (first | assumption | go_simp) }
      have l1 : w.heap.size + 1 < wb.heap.size := by omega
      have l7 : X7 < wb.heap.size := by omega
      have HBb := Lib.hid (HBa.out.trans (hbb.mono HBa.out.size))
      have HOb := Lib.hid (owns_below HOa.out hbb (fun z hz => (HOa.out.lt z hz).2))
      clear hbb t0 z1 f1 hzb
      go_wp2_with fail
      generalize hW : World.setCell _ _ _ = wz
      have rz : wz.cell? ⟨w.heap.size + 1, 0, none⟩ = some (.slice a9 n c9) := by { rw [← hW]; clear hW; go_simp }
      have hbz : Below w.heap.size w wz := by { rw [← hW]; have := HBb.out; (repeat' (first | (with_reducible exact Below.refl _ _) | (with_reducible assumption) | (with_reducible refine Below.drewN ?_ _) | (with_reducible refine Below.alloc ?_ ?_ _) | (with_reducible refine Below.drew ?_) | (with_reducible refine Below.setCell ?_ ?_ _) | (with_reducible refine Below.step (by assumption) ?_ ?_) | (with_reducible exact And.left (by assumption)) | go_size)) }
      have htz : T3R wz a9 n D := by { rw [← hW]; have := HOb.out; exact ER.of_owns HLD.out (show World.ownsRow _ w8.heap.size 76 3 (.slice a9 n c9) n (ecells e3 D) by (repeat' (first | (with_reducible assumption) | ((with_reducible refine owns_lit ?_ ?_ ?_ ?_) <;> first | (simp; done) | (simp; omega) | omega) | (with_reducible refine World.ownsRow.alloc ?_ _) | (with_reducible refine World.ownsRow.drew ?_) | (with_reducible refine owns_drewN ?_ _) | (with_reducible refine ownsRow_setCell_below ?_ ?_ _) | (simp; done) | (simp; omega) | omega))) }
      clear hW
      exact bodyPost_ret (v := .tuple #[.agg #[.slice a9 n c9], .int .i64 0]) (by simp [results, Tryz.results25, go_sem, rz]) rfl ⟨a9, n, c9, rfl, hbz, htz⟩
    · rw [if_pos hG] at hV
      subst hV
      rw [if_neg (by decide)]
      have HND := Lib.hid (fun (a' : Option Addr) (c' : Nat) (W : World) (h : T3R W a' n D) => networkErr_any D a' n c' W h)
      generalize (netE D).2 = G at *
      have hG1 : (G != 0) = true := by simpa using hG
      clear hG
      go_enter Tryz.func25, Tryz.ntmps25
      go_wp2_with fail
      generalize hW : World.alloc _ _ = w5
      have hb5 : Below w.heap.size w w5 := by rw [← hW]; (repeat' (first | (with_reducible exact Below.refl _ _) | (with_reducible assumption) | (with_reducible refine Below.drewN ?_ _) | (with_reducible refine Below.alloc ?_ ?_ _) | (with_reducible refine Below.drew ?_) | (with_reducible refine Below.setCell ?_ ?_ _) | (with_reducible refine Below.step (by assumption) ?_ ?_) | (with_reducible exact And.left (by assumption)) | go_size))
      have q0 : w5.cell? ⟨w.heap.size, 0, none⟩ = some (.slice a n c) := by { rw [← hW]; clear hW; go_simp }
      have z0 : w5.cell? ⟨w.heap.size + 1, 0, none⟩ = some (.slice none 0 0) := by { rw [← hW]; clear hW; go_simp }
      have f0 : w5.frozen? ⟨w.heap.size + 1, 0, none⟩ = false := by { rw [← hW]; clear hW; go_simp }
      have l1 : w.heap.size + 1 < w5.heap.size := by { rw [← hW]; clear hW; simp }
      have l0 : w.heap.size < w5.heap.size := by omega
      have HB5 := Lib.hid hb5
      clear hW hb5
      refine wp_region_laterM (B := w5.heap.size) [(true, 0), (true, 2), (true, 3), (false, 1), (false, 4), (false, 5), (false, 6), (true, 7)] (by kernel_rfl) (by kernel_rfl) ?_; simp only [opsOf, List.filterMap_cons, List.filterMap_nil, List.getElem?_toArray, List.getElem?_cons_zero, List.getElem?_cons_succ, Option.map_some]
      repeat (refine mix_head ?_; (show wpQuiet _ _ _ _ (_ :: _) _; go_big_quiet_step (fail)); refine wpQuiet_nil ?_)
      refine mix_tail ?_; go_wp2_with fail
      refine (HN.out _ HB5.out.drew).mono ?_
      rintro e6 w6 ⟨rfl, hb6⟩
      have HX := Lib.hid ((Below.refl w5.heap.size w5).drew.trans hb6)
      clear hb6
      go_wp2_with fail
      refine tailL_mk HX.out ?_
      refine mix_tail ?_; go_wp2_with fail
      refine (HD.out _ (HB5.out.trans (HX.out.mono HB5.out.size))).mono ?_
      rintro e7 w7 ⟨rfl, hb7⟩
      have HX := Lib.hid (HX.out.trans (hb7.mono HX.out.size))
      clear hb7
      go_wp2_with fail
      refine tailL_mk HX.out ?_
      refine mix_tail ?_; go_wp2_with fail
      refine tailL_mk (HX.out.alloc HX.out.size _) ?_
      refine mix_tail ?_; go_wp2_with fail
      have HX := Lib.hid (HX.out.alloc HX.out.size (Obj.cells #[.int .i64 e1, .int .i64 e2] 32))
      refine (d_first2 _ _ _ _ _ _ (by rfl) (by simp)).mono ?_
      rintro e8 w8 ⟨rfl, hw8⟩
      rw [hw8] at HX
      rw [← HE.out]
      clear hw8
      go_wp2_with fail
      refine tailL_mk HX.out ?_
      repeat (refine mix_head ?_; (show wpQuiet _ _ _ _ (_ :: _) _; go_big_quiet_step (fail)); refine wpQuiet_nil ?_)
      refine mix_nil ?_
      have hbx := HX.out
      have hzx := hbx.size
      have q0d : w8.cell? ⟨w.heap.size, 0, none⟩ = some (.slice a n c) := by { rw [cellB hbx _ _ (by first | (simp; done) | (simp; omega) | omega)]; all_goals (first | assumption | go_simp) }; have z0d : w8.cell? ⟨w.heap.size + 1, 0, none⟩ = some (.slice none 0 0) := by { rw [cellB hbx _ _ (by first | (simp; done) | (simp; omega) | omega)]; all_goals (first | assumption | go_simp) }; have f0d : w8.frozen? ⟨w.heap.size + 1, 0, none⟩ = false := by { rw [frozenB hbx _ _ (by first | (simp; done) | (simp; omega) | omega)]; all_goals (first | assumption | go_simp) }; have l0d : w.heap.size < w8.heap.size := by { omega }; have l1d : w.heap.size + 1 < w8.heap.size := by { omega }
      have HB8 := Lib.hid (HB5.out.trans (hbx.mono HB5.out.size))
      clear hbx hzx HX HB5 q0 z0 f0 l0 l1
      go_wp2_with fail
      refine (HDX.out _ HB8.out).mono ?_
      rintro e9 w9 ⟨a9, c9, rfl, hb9, ho9⟩
      have hz9 := hb9.size
      have z0 : w9.cell? ⟨w.heap.size + 1, 0, none⟩ = some (.slice none 0 0) := by { rw [cellB hb9 _ _ (by first | (simp; done) | (simp; omega) | omega)]; all_goals (first | assumption | go_simp) }; have f0 : w9.frozen? ⟨w.heap.size + 1, 0, none⟩ = false := by { rw [frozenB hb9 _ _ (by first | (simp; done) | (simp; omega) | omega)]; all_goals (first | assumption | go_simp) }; have l1 : w.heap.size + 1 < w9.heap.size := by { omega }
      have HB9 := Lib.hid (HB8.out.trans (hb9.mono HB8.out.size))
      have HO9 := Lib.hid ho9
      have lB : w.heap.size + 1 < w8.heap.size := by omega
      clear hb9 ho9 q0d z0d f0d l0d l1d
      go_wp2_with fail
      generalize hW : World.alloc _ _ = wa
      have hba : Below w9.heap.size w9 wa := by rw [← hW]; (repeat' (first | (with_reducible exact Below.refl _ _) | (with_reducible assumption) | (with_reducible refine Below.drewN ?_ _) | (with_reducible refine Below.alloc ?_ ?_ _) | (with_reducible refine Below.drew ?_) | (with_reducible refine Below.setCell ?_ ?_ _) | (with_reducible refine Below.step (by assumption) ?_ ?_) | (with_reducible exact And.left (by assumption)) | go_size))
      have t0 : wa.cell? ⟨w9.heap.size, 0, none⟩ = some (.slice a9 n c9) := by { rw [← hW]; clear hW; go_simp }
      have la : w9.heap.size < wa.heap.size := by { rw [← hW]; clear hW; simp }
      have z1 : wa.cell? ⟨w.heap.size + 1, 0, none⟩ = some (.slice none 0 0) := by { rw [cellB hba _ _ (by first | (simp; done) | (simp; omega) | omega)]; all_goals (first | assumption | go_simp) }; have f1 : wa.frozen? ⟨w.heap.size + 1, 0, none⟩ = false := by { rw [frozenB hba _ _ (by first | (simp; done) | (simp; omega) | omega)]; all_goals (first | assumption | go_simp) }
      have l2 : w.heap.size + 1 < wa.heap.size := by omega
      have HOa := Lib.hid (owns_below HO9.out hba (fun z hz => (HO9.out.lt z hz).2))
      have HBa := Lib.hid (HB9.out.trans (hba.mono HB9.out.size))
      have HTa := Lib.hid (show T3R wa a9 n D from ER.of_owns HLD.out HOa.out)
      obtain ⟨X7, hX7⟩ : ∃ X, X = w9.heap.size := ⟨_, rfl⟩
      rw [← hX7] at t0 la ⊢
      have l17 : w.heap.size + 1 < X7 := by omega
      clear hW hba z0 f0 l1 hX7 hz9 HO9
      refine (HND.out a9 c9 wa HTa.out).mono ?_
      rintro eb wb ⟨rfl, hbb⟩
      have hzb := hbb.size
      have t0b : wb.cell? ⟨X7, 0, none⟩ = some (.slice a9 n c9) := by { rw [cellB hbb _ _ (by first | (simp; done) | (simp; omega) | omega)]; all_goals (first | assumption | go_simp) }; have z0 : wb.cell? ⟨w.heap.size + 1, 0, none⟩ = some (.slice none 0 0) := by { rw [cellB hbb _ _ (by first | (simp; done) | (simp; omega) | omega)]; all_goals (first | assumption | go_simp) }; have f0 : wb.frozen? ⟨w.heap.size + 1, 0, none⟩ = false := by { rw [frozenB hbb _ _ (by first | (simp; done) | (simp; omega) | omega)]; all_goals (first | assumption | go_simp) }
      have l1 : w.heap.size + 1 < wb.heap.size := by omega
      have l7 : X7 < wb.heap.size := by omega
      have HBb := Lib.hid (HBa.out.trans (hbb.mono HBa.out.size))
      have HOb := Lib.hid (owns_below HOa.out hbb (fun z hz => (HOa.out.lt z hz).2))
      clear hbb t0 z1 f1 hzb
      go_wp2_with fail
      generalize hW : World.setCell _ _ _ = wz
      have rz : wz.cell? ⟨w.heap.size + 1, 0, none⟩ = some (.slice none 0 0) := by { rw [← hW]; clear hW; go_simp }
      have hbz : Below w.heap.size w wz := by { rw [← hW]; have := HBb.out; (repeat' (first | (with_reducible exact Below.refl _ _) | (with_reducible assumption) | (with_reducible refine Below.drewN ?_ _) | (with_reducible refine Below.alloc ?_ ?_ _) | (with_reducible refine Below.drew ?_) | (with_reducible refine Below.setCell ?_ ?_ _) | (with_reducible refine Below.step (by assumption) ?_ ?_) | (with_reducible exact And.left (by assumption)) | go_size)) }
      clear hW
      exact bodyPost_ret (v := .tuple #[.agg #[.slice none 0 0], .int .i64 22]) (by simp [results, Tryz.results25, go_sem, rz]) rfl ⟨none, 0, 0, rfl, hbz, ER.nil _ _⟩
  · rw [if_pos h0] at hV
    have hV0 : V ≠ 0 := by rw [hV]; exact h0
    rw [if_neg hV0]
    subst hV
    have hE1 : (V != 0) = true := by simpa using h0
    clear HDD h0 hV0
    go_enter Tryz.func25, Tryz.ntmps25
    go_wp2_with fail
    generalize hW : World.alloc _ _ = w5
    have hb5 : Below w.heap.size w w5 := by rw [← hW]; (repeat' (first | (with_reducible exact Below.refl _ _) | (with_reducible assumption) | (with_reducible refine Below.drewN ?_ _) | (with_reducible refine Below.alloc ?_ ?_ _) | (with_reducible refine Below.drew ?_) | (with_reducible refine Below.setCell ?_ ?_ _) | (with_reducible refine Below.step (by assumption) ?_ ?_) | (with_reducible exact And.left (by assumption)) | go_size))
    have q0 : w5.cell? ⟨w.heap.size, 0, none⟩ = some (.slice a n c) := by { rw [← hW]; clear hW; go_simp }
    have z0 : w5.cell? ⟨w.heap.size + 1, 0, none⟩ = some (.slice none 0 0) := by { rw [← hW]; clear hW; go_simp }
    have f0 : w5.frozen? ⟨w.heap.size + 1, 0, none⟩ = false := by { rw [← hW]; clear hW; go_simp }
    have l1 : w.heap.size + 1 < w5.heap.size := by { rw [← hW]; clear hW; simp }
    have l0 : w.heap.size < w5.heap.size := by omega
    have HB5 := Lib.hid hb5
    clear hW hb5
    refine wp_region_laterM (B := w5.heap.size) [(true, 0), (true, 2), (true, 3), (false, 1), (false, 4), (false, 5), (false, 6), (true, 7)] (by kernel_rfl) (by kernel_rfl) ?_; simp only [opsOf, List.filterMap_cons, List.filterMap_nil, List.getElem?_toArray, List.getElem?_cons_zero, List.getElem?_cons_succ, Option.map_some]
    repeat (refine mix_head ?_; (show wpQuiet _ _ _ _ (_ :: _) _; go_big_quiet_step (fail)); refine wpQuiet_nil ?_)
    refine mix_tail ?_; go_wp2_with fail
    refine (HN.out _ HB5.out.drew).mono ?_
    rintro e6 w6 ⟨rfl, hb6⟩
    have HX := Lib.hid ((Below.refl w5.heap.size w5).drew.trans hb6)
    clear hb6
    go_wp2_with fail
    refine tailL_mk HX.out ?_
    refine mix_tail ?_; go_wp2_with fail
    refine (HD.out _ (HB5.out.trans (HX.out.mono HB5.out.size))).mono ?_
    rintro e7 w7 ⟨rfl, hb7⟩
    have HX := Lib.hid (HX.out.trans (hb7.mono HX.out.size))
    clear hb7
    go_wp2_with fail
    refine tailL_mk HX.out ?_
    refine mix_tail ?_; go_wp2_with fail
    refine tailL_mk (HX.out.alloc HX.out.size _) ?_
    refine mix_tail ?_; go_wp2_with fail
    have HX := Lib.hid (HX.out.alloc HX.out.size (Obj.cells #[.int .i64 e1, .int .i64 e2] 32))
    refine (d_first2 _ _ _ _ _ _ (by rfl) (by simp)).mono ?_
    rintro e8 w8 ⟨rfl, hw8⟩
    rw [hw8] at HX
    rw [← HE.out]
    clear hw8
    go_wp2_with fail
    refine tailL_mk HX.out ?_
    repeat (refine mix_head ?_; (show wpQuiet _ _ _ _ (_ :: _) _; go_big_quiet_step (fail)); refine wpQuiet_nil ?_)
    refine mix_nil ?_
    have hbx := HX.out
    have hzx := hbx.size
    have q0d : w8.cell? ⟨w.heap.size, 0, none⟩ = some (.slice a n c) := by { rw [cellB hbx _ _ (by first | (simp; done) | (simp; omega) | omega)]; all_goals (first | assumption | go_simp) }; have z0d : w8.cell? ⟨w.heap.size + 1, 0, none⟩ = some (.slice none 0 0) := by { rw [cellB hbx _ _ (by first | (simp; done) | (simp; omega) | omega)]; all_goals (first | assumption | go_simp) }; have f0d : w8.frozen? ⟨w.heap.size + 1, 0, none⟩ = false := by { rw [frozenB hbx _ _ (by first | (simp; done) | (simp; omega) | omega)]; all_goals (first | assumption | go_simp) }; have l0d : w.heap.size < w8.heap.size := by { omega }; have l1d : w.heap.size + 1 < w8.heap.size := by { omega }
    have HB8 := Lib.hid (HB5.out.trans (hbx.mono HB5.out.size))
    clear hbx hzx HX HB5 q0 z0 f0 l0 l1
    go_wp2_with fail
    generalize hW : World.setCell _ _ _ = wz
    have rz : wz.cell? ⟨w.heap.size + 1, 0, none⟩ = some (.slice none 0 0) := by { rw [← hW]; clear hW; go_simp }
    have hbz : Below w.heap.size w wz := by { rw [← hW]; have := HB8.out; (repeat' (first | (with_reducible exact Below.refl _ _) | (with_reducible assumption) | (with_reducible refine Below.drewN ?_ _) | (with_reducible refine Below.alloc ?_ ?_ _) | (with_reducible refine Below.drew ?_) | (with_reducible refine Below.setCell ?_ ?_ _) | (with_reducible refine Below.step (by assumption) ?_ ?_) | (with_reducible exact And.left (by assumption)) | go_size)) }
    clear hW
    exact bodyPost_ret (v := .tuple #[.agg #[.slice none 0 0], .int .i64 V]) (by simp [results, Tryz.results25, go_sem, rz]) rfl ⟨none, 0, 0, rfl, hbz, ER.nil _ _⟩
end Go.Proofs.YtkphbibonagkfaaGreat

/- Responses with the errors: the program's functions; the frequency 0; a section of zeros. -/
namespace Go.Proofs.YtkphbibonagkfaaGreat
open Go.RowKit
set_option linter.unusedVariables false

def rspE (s : List T3) (f : Int) : Int := firstErr [(netE s).2, unl (wi f 0 6) 2]
def rsoE (s : List T3) (fs : List Int) : Int := firstErr [(netE s).2, freE fs]
theorem col_zero (w : Int) (p : GI × GI) : colStep w ⟨0, 0, 0⟩ p = p := by
  obtain ⟨⟨a, b⟩, ⟨c, d⟩⟩ := p
  unfold colStep Sec.z Sec.y GI.add GI.mul
  simp
theorem gPr_longer (s : List T3) (f : Int) : gPr (s ++ [⟨0, 0, 0⟩]) f = gPr s f := by
  unfold gPr
  rw [resp_col, resp_col, List.map_append, List.foldr_append]
  rw [show ([⟨0, 0, 0⟩] : List T3).map sOf = [⟨0, 0, 0⟩] from rfl, List.foldr_cons, List.foldr_nil, col_zero]
theorem col_at_zero : ∀ (l : List Sec), l.foldr (colStep 0) (⟨1, 0⟩, ⟨0, 0⟩) = (⟨1, 0⟩, ⟨0, 0⟩)
  | [] => rfl
  | s :: r => by
    rw [List.foldr_cons, col_at_zero r]
    unfold colStep Sec.z Sec.y GI.add GI.mul
    simp
theorem gPr_zero (s : List T3) : gPr s 0 = (1, 0) := by
  unfold gPr
  rw [resp_col, col_at_zero]
set_option maxHeartbeats 1000000 in
set_option maxRecDepth 100000 in
theorem responseAt_any (s : List T3) (f : Int) (a : Option Addr) (n c : Nat) (w : World) (hs : T3R w a n s) :
    Calls Tryz.prog 34 #[.agg #[.slice a n c], .int .i64 f] w fun e' w' => e' = .returned (.tuple #[.agg #[.int .i64 (if rspE s f = 0 then (gPr s f).1 else 0), .int .i64 (if rspE s f = 0 then (gPr s f).2 else 0)], .int .i64 (rspE s f)]) ∧ Below w.heap.size w w' := by
  have HN := Lib.hid (fun (W : World) (hb : Below w.heap.size w W) => networkErr_any s a n c W (hs.below hb))
  have HR := Lib.hid (fun (h : rspE s f = 0) (W : World) (hb : Below w.heap.size w W) => show Calls Tryz.prog 106 #[.agg #[.slice a n c], .int .i64 f] W fun e' w' => e' = .returned (.agg #[.int .i64 (gPr s f).1, .int .i64 (gPr s f).2]) ∧ Below W.heap.size W w' by
    obtain ⟨h1, h2⟩ := firstErr_cons.1 h
    obtain ⟨h2, _⟩ := firstErr_cons.1 h2
    have k1 := netE_ok h1
    rw [unl_eq_zero (by omega), wi_iff] at h2
    exact response_any s f a n c W (hs.below hb) (by have := hs.len; omega) k1.2.2 h2)
  have HE := Lib.hid (show rspE s f = firstErr [(netE s).2, unl (wi f 0 6) 2] from rfl)
  clear hs
  generalize rspE s f = E at *
  generalize gPr s f = P at *
  generalize (netE s).2 = e1 at *
  obtain ⟨P1, P2⟩ := P
  simp only at HR ⊢
  by_cases h0 : E = 0
  · rw [if_pos h0, if_pos h0]
    have HRR := Lib.hid (HR.out h0)
    subst h0
    clear HR
    go_enter Tryz.func34, Tryz.ntmps34
    go_wp2_with fail
    generalize hW : World.alloc _ _ = w5
    have hb5 : Below w.heap.size w w5 := by rw [← hW]; (repeat' (first | (with_reducible exact Below.refl _ _) | (with_reducible assumption) | (with_reducible refine Below.drewN ?_ _) | (with_reducible refine Below.alloc ?_ ?_ _) | (with_reducible refine Below.drew ?_) | (with_reducible refine Below.setCell ?_ ?_ _) | (with_reducible refine Below.step (by assumption) ?_ ?_) | (with_reducible exact And.left (by assumption)) | go_size))
    have q0 : w5.cell? ⟨w.heap.size, 0, none⟩ = some (.slice a n c) := by { rw [← hW]; clear hW; go_simp }
    have z0 : w5.cell? ⟨w.heap.size + 1, 0, none⟩ = some (.int .i64 0) := by { rw [← hW]; clear hW; go_simp }
    have z1 : w5.cell? ⟨w.heap.size + 1, 1, none⟩ = some (.int .i64 0) := by { rw [← hW]; clear hW; go_simp }
    have f0 : w5.frozen? ⟨w.heap.size + 1, 0, none⟩ = false := by { rw [← hW]; clear hW; go_simp }
    have f1 : w5.frozen? ⟨w.heap.size + 1, 1, none⟩ = false := by { rw [← hW]; clear hW; go_simp }
    have l1 : w.heap.size + 1 < w5.heap.size := by { rw [← hW]; clear hW; simp }
    have HB := Lib.hid hb5
    clear hW hb5
    refine (HN.out _ HB.out).mono ?_
    rintro e6 w6 ⟨rfl, hb6⟩
    have HB := Lib.hid (HB.out.trans (hb6.mono HB.out.size))
    have h16 : Below w5.heap.size w5 w6 := hb6
    go_wp2_with fail
    refine (isFrequency_any _ _).mono ?_
    rintro e7 w7 ⟨rfl, rfl⟩
    go_wp2_with fail
    refine (d_unless_any _ _ _).mono ?_
    rintro e8 w8 ⟨rfl, rfl⟩
    go_wp2_with fail
    refine (d_first2 _ _ _ _ _ _ (by rfl) (by simp)).mono ?_
    rintro e9 w9 ⟨rfl, hw9⟩
    have hb9 : Below w5.heap.size w5 w9 := h16.trans ((show Below w6.heap.size w6 w9 by rw [← hw9]; (repeat' (first | (with_reducible exact Below.refl _ _) | (with_reducible assumption) | (with_reducible refine Below.drewN ?_ _) | (with_reducible refine Below.alloc ?_ ?_ _) | (with_reducible refine Below.drew ?_) | (with_reducible refine Below.setCell ?_ ?_ _) | (with_reducible refine Below.step (by assumption) ?_ ?_) | (with_reducible exact And.left (by assumption)) | go_size))).mono h16.size)
    rw [← HE.out]
    have hz9 := hb9.size
    have q0d : w9.cell? ⟨w.heap.size, 0, none⟩ = some (.slice a n c) := by { rw [cellB hb9 _ _ (by first | (simp; done) | (simp; omega) | omega)]; all_goals (first | assumption | go_simp) }; have z0d : w9.cell? ⟨w.heap.size + 1, 0, none⟩ = some (.int .i64 0) := by { rw [cellB hb9 _ _ (by first | (simp; done) | (simp; omega) | omega)]; all_goals (first | assumption | go_simp) }; have z1d : w9.cell? ⟨w.heap.size + 1, 1, none⟩ = some (.int .i64 0) := by { rw [cellB hb9 _ _ (by first | (simp; done) | (simp; omega) | omega)]; all_goals (first | assumption | go_simp) }; have f0d : w9.frozen? ⟨w.heap.size + 1, 0, none⟩ = false := by { rw [frozenB hb9 _ _ (by first | (simp; done) | (simp; omega) | omega)]; all_goals (first | assumption | go_simp) }; have f1d : w9.frozen? ⟨w.heap.size + 1, 1, none⟩ = false := by { rw [frozenB hb9 _ _ (by first | (simp; done) | (simp; omega) | omega)]; all_goals (first | assumption | go_simp) }
    have l1d : w.heap.size + 1 < w9.heap.size := by omega
    have l0d : w.heap.size < w9.heap.size := by omega
    have HB := Lib.hid (show Below w.heap.size w w9 from HB.out.trans ((show Below w6.heap.size w6 w9 by rw [← hw9]; (repeat' (first | (with_reducible exact Below.refl _ _) | (with_reducible assumption) | (with_reducible refine Below.drewN ?_ _) | (with_reducible refine Below.alloc ?_ ?_ _) | (with_reducible refine Below.drew ?_) | (with_reducible refine Below.setCell ?_ ?_ _) | (with_reducible refine Below.step (by assumption) ?_ ?_) | (with_reducible exact And.left (by assumption)) | go_size))).mono HB.out.size))
    clear hb6 h16 hw9 hb9 hz9 q0 z0 z1 f0 f1 l1
    go_wp2_with fail
    refine (HRR.out _ HB.out).mono ?_
    rintro e10 wa ⟨rfl, hba⟩
    have hza := hba.size
    have z0 : wa.cell? ⟨w.heap.size + 1, 0, none⟩ = some (.int .i64 0) := by { rw [cellB hba _ _ (by first | (simp; done) | (simp; omega) | omega)]; all_goals (first | assumption | go_simp) }; have z1 : wa.cell? ⟨w.heap.size + 1, 1, none⟩ = some (.int .i64 0) := by { rw [cellB hba _ _ (by first | (simp; done) | (simp; omega) | omega)]; all_goals (first | assumption | go_simp) }; have f0 : wa.frozen? ⟨w.heap.size + 1, 0, none⟩ = false := by { rw [frozenB hba _ _ (by first | (simp; done) | (simp; omega) | omega)]; all_goals (first | assumption | go_simp) }; have f1 : wa.frozen? ⟨w.heap.size + 1, 1, none⟩ = false := by { rw [frozenB hba _ _ (by first | (simp; done) | (simp; omega) | omega)]; all_goals (first | assumption | go_simp) }; have l1 : w.heap.size + 1 < wa.heap.size := by { omega }
    have HB := Lib.hid (HB.out.trans (hba.mono HB.out.size))
    clear hba hza q0d z0d z1d f0d f1d l0d l1d
    go_wp2_with fail
    generalize hW : World.setCell _ _ _ = wz
    have rz0 : wz.cell? ⟨w.heap.size + 1, 0, none⟩ = some (.int .i64 P1) := by { rw [← hW]; clear hW; go_simp }
    have rz1 : wz.cell? ⟨w.heap.size + 1, 1, none⟩ = some (.int .i64 P2) := by { rw [← hW]; clear hW; go_simp }
    have hbz : Below w.heap.size w wz := by { rw [← hW]; have := HB.out; (repeat' (first | (with_reducible exact Below.refl _ _) | (with_reducible assumption) | (with_reducible refine Below.drewN ?_ _) | (with_reducible refine Below.alloc ?_ ?_ _) | (with_reducible refine Below.drew ?_) | (with_reducible refine Below.setCell ?_ ?_ _) | (with_reducible refine Below.step (by assumption) ?_ ?_) | (with_reducible exact And.left (by assumption)) | go_size)) }
    clear hW
    exact bodyPost_ret (v := .tuple #[.agg #[.int .i64 P1, .int .i64 P2], .int .i64 0]) (by simp [results, Tryz.results34, go_sem, rz0, rz1]) rfl ⟨rfl, hbz⟩
  · rw [if_neg h0, if_neg h0]
    have hE1 : (E != 0) = true := by simpa using h0
    clear HR h0
    go_enter Tryz.func34, Tryz.ntmps34
    go_wp2_with fail
    generalize hW : World.alloc _ _ = w5
    have hb5 : Below w.heap.size w w5 := by rw [← hW]; (repeat' (first | (with_reducible exact Below.refl _ _) | (with_reducible assumption) | (with_reducible refine Below.drewN ?_ _) | (with_reducible refine Below.alloc ?_ ?_ _) | (with_reducible refine Below.drew ?_) | (with_reducible refine Below.setCell ?_ ?_ _) | (with_reducible refine Below.step (by assumption) ?_ ?_) | (with_reducible exact And.left (by assumption)) | go_size))
    have q0 : w5.cell? ⟨w.heap.size, 0, none⟩ = some (.slice a n c) := by { rw [← hW]; clear hW; go_simp }
    have z0 : w5.cell? ⟨w.heap.size + 1, 0, none⟩ = some (.int .i64 0) := by { rw [← hW]; clear hW; go_simp }
    have z1 : w5.cell? ⟨w.heap.size + 1, 1, none⟩ = some (.int .i64 0) := by { rw [← hW]; clear hW; go_simp }
    have f0 : w5.frozen? ⟨w.heap.size + 1, 0, none⟩ = false := by { rw [← hW]; clear hW; go_simp }
    have f1 : w5.frozen? ⟨w.heap.size + 1, 1, none⟩ = false := by { rw [← hW]; clear hW; go_simp }
    have l1 : w.heap.size + 1 < w5.heap.size := by { rw [← hW]; clear hW; simp }
    have HB := Lib.hid hb5
    clear hW hb5
    refine (HN.out _ HB.out).mono ?_
    rintro e6 w6 ⟨rfl, hb6⟩
    have HB := Lib.hid (HB.out.trans (hb6.mono HB.out.size))
    have h16 : Below w5.heap.size w5 w6 := hb6
    go_wp2_with fail
    refine (isFrequency_any _ _).mono ?_
    rintro e7 w7 ⟨rfl, rfl⟩
    go_wp2_with fail
    refine (d_unless_any _ _ _).mono ?_
    rintro e8 w8 ⟨rfl, rfl⟩
    go_wp2_with fail
    refine (d_first2 _ _ _ _ _ _ (by rfl) (by simp)).mono ?_
    rintro e9 w9 ⟨rfl, hw9⟩
    have hb9 : Below w5.heap.size w5 w9 := h16.trans ((show Below w6.heap.size w6 w9 by rw [← hw9]; (repeat' (first | (with_reducible exact Below.refl _ _) | (with_reducible assumption) | (with_reducible refine Below.drewN ?_ _) | (with_reducible refine Below.alloc ?_ ?_ _) | (with_reducible refine Below.drew ?_) | (with_reducible refine Below.setCell ?_ ?_ _) | (with_reducible refine Below.step (by assumption) ?_ ?_) | (with_reducible exact And.left (by assumption)) | go_size))).mono h16.size)
    rw [← HE.out]
    have hz9 := hb9.size
    have q0d : w9.cell? ⟨w.heap.size, 0, none⟩ = some (.slice a n c) := by { rw [cellB hb9 _ _ (by first | (simp; done) | (simp; omega) | omega)]; all_goals (first | assumption | go_simp) }; have z0d : w9.cell? ⟨w.heap.size + 1, 0, none⟩ = some (.int .i64 0) := by { rw [cellB hb9 _ _ (by first | (simp; done) | (simp; omega) | omega)]; all_goals (first | assumption | go_simp) }; have z1d : w9.cell? ⟨w.heap.size + 1, 1, none⟩ = some (.int .i64 0) := by { rw [cellB hb9 _ _ (by first | (simp; done) | (simp; omega) | omega)]; all_goals (first | assumption | go_simp) }; have f0d : w9.frozen? ⟨w.heap.size + 1, 0, none⟩ = false := by { rw [frozenB hb9 _ _ (by first | (simp; done) | (simp; omega) | omega)]; all_goals (first | assumption | go_simp) }; have f1d : w9.frozen? ⟨w.heap.size + 1, 1, none⟩ = false := by { rw [frozenB hb9 _ _ (by first | (simp; done) | (simp; omega) | omega)]; all_goals (first | assumption | go_simp) }
    have l1d : w.heap.size + 1 < w9.heap.size := by omega
    have l0d : w.heap.size < w9.heap.size := by omega
    have HB := Lib.hid (show Below w.heap.size w w9 from HB.out.trans ((show Below w6.heap.size w6 w9 by rw [← hw9]; (repeat' (first | (with_reducible exact Below.refl _ _) | (with_reducible assumption) | (with_reducible refine Below.drewN ?_ _) | (with_reducible refine Below.alloc ?_ ?_ _) | (with_reducible refine Below.drew ?_) | (with_reducible refine Below.setCell ?_ ?_ _) | (with_reducible refine Below.step (by assumption) ?_ ?_) | (with_reducible exact And.left (by assumption)) | go_size))).mono HB.out.size))
    clear hb6 h16 hw9 hb9 hz9 q0 z0 z1 f0 f1 l1
    go_wp2_with fail
    generalize hW : World.setCell _ _ _ = wz
    have rz0 : wz.cell? ⟨w.heap.size + 1, 0, none⟩ = some (.int .i64 0) := by { rw [← hW]; clear hW; go_simp }
    have rz1 : wz.cell? ⟨w.heap.size + 1, 1, none⟩ = some (.int .i64 0) := by { rw [← hW]; clear hW; go_simp }
    have hbz : Below w.heap.size w wz := by { rw [← hW]; have := HB.out; (repeat' (first | (with_reducible exact Below.refl _ _) | (with_reducible assumption) | (with_reducible refine Below.drewN ?_ _) | (with_reducible refine Below.alloc ?_ ?_ _) | (with_reducible refine Below.drew ?_) | (with_reducible refine Below.setCell ?_ ?_ _) | (with_reducible refine Below.step (by assumption) ?_ ?_) | (with_reducible exact And.left (by assumption)) | go_size)) }
    clear hW
    exact bodyPost_ret (v := .tuple #[.agg #[.int .i64 0, .int .i64 0], .int .i64 E]) (by simp [results, Tryz.results34, go_sem, rz0, rz1]) rfl ⟨rfl, hbz⟩
set_option maxHeartbeats 1000000 in
set_option maxRecDepth 100000 in
theorem responsesOf_any (s : List T3) (fs : List Int) (a af : Option Addr) (n c m cm : Nat) (w : World) (hs : T3R w a n s) (hf : IntsR w af m fs) :
    Calls Tryz.prog 35 #[.agg #[.slice a n c], .slice af m cm] w fun e' w' => ∃ a' k' c', e' = .returned (.tuple #[.slice a' k' c', .int .i64 (rsoE s fs)]) ∧ Below w.heap.size w w' ∧ PairsR w' a' k' (if rsoE s fs = 0 then fs.map (gPr s) else []) := by
  have HN := Lib.hid (fun (W : World) (hb : Below w.heap.size w W) => networkErr_any s a n c W (hs.below hb))
  have HFE := Lib.hid (fun (W : World) (hb : Below w.heap.size w W) => frequenciesErr_any fs af m cm W (hf.below hb))
  have HR := Lib.hid (fun (h : rsoE s fs = 0) (W : World) (hb : Below w.heap.size w W) => show Calls Tryz.prog 108 #[.agg #[.slice a n c], .slice af m cm] W fun e' w' => ∃ a' c', e' = .returned (.slice a' m c') ∧ Below W.heap.size W w' ∧ PairsR w' a' m (fs.map (gPr s)) by
    obtain ⟨h1, h2⟩ := firstErr_cons.1 h
    obtain ⟨h2, _⟩ := firstErr_cons.1 h2
    have k1 := netE_ok h1
    have k2 : fs.length ≤ 8 ∧ ∀ f ∈ fs, 0 ≤ f ∧ f ≤ 6 := by
      unfold freE at h2
      obtain ⟨g1, g2⟩ := firstErr_cons.1 h2
      obtain ⟨g3, _⟩ := firstErr_cons.1 g2
      rw [unl_eq_zero (by omega)] at g1 g3
      rw [decide_eq_true_eq] at g1
      rw [Bool.not_eq_true', List.any_eq_false] at g3
      exact ⟨by omega, fun f hf => by have := g3 f hf; simpa [wi_iff] using this⟩
    refine (responses_any s fs a af n c m cm W (hs.below hb) (hf.below hb) (by have := hs.len; omega) k1.2.2 k2.2 (by have := hf.len; omega)).mono ?_
    rintro e W' ⟨a', c', h1, _, h2, h3, _⟩
    exact ⟨a', c', h1, h2, h3⟩)
  have HE := Lib.hid (show rsoE s fs = firstErr [(netE s).2, freE fs] from rfl)
  clear hs hf
  generalize rsoE s fs = E at *
  generalize fs.map (gPr s) = P at *
  generalize (netE s).2 = e1 at *
  generalize freE fs = e2 at *
  by_cases h0 : E = 0
  · rw [if_pos h0]
    have HRR := Lib.hid (HR.out h0)
    subst h0
    clear HR
    go_enter Tryz.func35, Tryz.ntmps35
    go_wp2_with fail
    generalize hW : World.alloc _ _ = w5
    have hb5 : Below w.heap.size w w5 := by rw [← hW]; (repeat' (first | (with_reducible exact Below.refl _ _) | (with_reducible assumption) | (with_reducible refine Below.drewN ?_ _) | (with_reducible refine Below.alloc ?_ ?_ _) | (with_reducible refine Below.drew ?_) | (with_reducible refine Below.setCell ?_ ?_ _) | (with_reducible refine Below.step (by assumption) ?_ ?_) | (with_reducible exact And.left (by assumption)) | go_size))
    have q0 : w5.cell? ⟨w.heap.size, 0, none⟩ = some (.slice a n c) := by { rw [← hW]; clear hW; go_simp }
    have l1 : w.heap.size < w5.heap.size := by { rw [← hW]; clear hW; simp }
    have HB := Lib.hid hb5
    clear hW hb5
    refine (HN.out _ HB.out).mono ?_
    rintro e6 w6 ⟨rfl, hb6⟩
    have HB := Lib.hid (HB.out.trans (hb6.mono HB.out.size))
    go_wp2_with fail
    refine (HFE.out _ HB.out).mono ?_
    rintro e7 w7 ⟨rfl, hb7⟩
    have h57 : Below w5.heap.size w5 w7 := hb6.trans (hb7.mono hb6.size)
    have HB := Lib.hid (HB.out.trans (hb7.mono HB.out.size))
    go_wp2_with fail
    refine (d_first2 _ _ _ _ _ _ (by rfl) (by simp)).mono ?_
    rintro e9 w9 ⟨rfl, hw9⟩
    have hb9 : Below w5.heap.size w5 w9 := h57.trans ((show Below w7.heap.size w7 w9 by rw [← hw9]; (repeat' (first | (with_reducible exact Below.refl _ _) | (with_reducible assumption) | (with_reducible refine Below.drewN ?_ _) | (with_reducible refine Below.alloc ?_ ?_ _) | (with_reducible refine Below.drew ?_) | (with_reducible refine Below.setCell ?_ ?_ _) | (with_reducible refine Below.step (by assumption) ?_ ?_) | (with_reducible exact And.left (by assumption)) | go_size))).mono h57.size)
    rw [← HE.out]
    have hz9 := hb9.size
    have q0d : w9.cell? ⟨w.heap.size, 0, none⟩ = some (.slice a n c) := by { rw [cellB hb9 _ _ (by first | (simp; done) | (simp; omega) | omega)]; all_goals (first | assumption | go_simp) }
    have l0d : w.heap.size < w9.heap.size := by omega
    have HB := Lib.hid (show Below w.heap.size w w9 from HB.out.trans ((show Below w7.heap.size w7 w9 by rw [← hw9]; (repeat' (first | (with_reducible exact Below.refl _ _) | (with_reducible assumption) | (with_reducible refine Below.drewN ?_ _) | (with_reducible refine Below.alloc ?_ ?_ _) | (with_reducible refine Below.drew ?_) | (with_reducible refine Below.setCell ?_ ?_ _) | (with_reducible refine Below.step (by assumption) ?_ ?_) | (with_reducible exact And.left (by assumption)) | go_size))).mono HB.out.size))
    clear hb6 hb7 h57 hw9 hb9 hz9 q0 l1
    go_wp2_with fail
    refine (HRR.out _ HB.out).mono ?_
    rintro e10 wa ⟨a', c', rfl, hba, hpa⟩
    have HB := Lib.hid (HB.out.trans (hba.mono HB.out.size))
    have HP := Lib.hid hpa
    clear hba hpa
    go_wp2
    go_ret2
    exact ⟨a', m, c', rfl, HB.out, HP.out⟩
  · rw [if_neg h0]
    have hE1 : (E != 0) = true := by simpa using h0
    clear HR h0
    go_enter Tryz.func35, Tryz.ntmps35
    go_wp2_with fail
    generalize hW : World.alloc _ _ = w5
    have hb5 : Below w.heap.size w w5 := by rw [← hW]; (repeat' (first | (with_reducible exact Below.refl _ _) | (with_reducible assumption) | (with_reducible refine Below.drewN ?_ _) | (with_reducible refine Below.alloc ?_ ?_ _) | (with_reducible refine Below.drew ?_) | (with_reducible refine Below.setCell ?_ ?_ _) | (with_reducible refine Below.step (by assumption) ?_ ?_) | (with_reducible exact And.left (by assumption)) | go_size))
    have q0 : w5.cell? ⟨w.heap.size, 0, none⟩ = some (.slice a n c) := by { rw [← hW]; clear hW; go_simp }
    have l1 : w.heap.size < w5.heap.size := by { rw [← hW]; clear hW; simp }
    have HB := Lib.hid hb5
    clear hW hb5
    refine (HN.out _ HB.out).mono ?_
    rintro e6 w6 ⟨rfl, hb6⟩
    have HB := Lib.hid (HB.out.trans (hb6.mono HB.out.size))
    go_wp2_with fail
    refine (HFE.out _ HB.out).mono ?_
    rintro e7 w7 ⟨rfl, hb7⟩
    have h57 : Below w5.heap.size w5 w7 := hb6.trans (hb7.mono hb6.size)
    have HB := Lib.hid (HB.out.trans (hb7.mono HB.out.size))
    go_wp2_with fail
    refine (d_first2 _ _ _ _ _ _ (by rfl) (by simp)).mono ?_
    rintro e9 w9 ⟨rfl, hw9⟩
    have hb9 : Below w5.heap.size w5 w9 := h57.trans ((show Below w7.heap.size w7 w9 by rw [← hw9]; (repeat' (first | (with_reducible exact Below.refl _ _) | (with_reducible assumption) | (with_reducible refine Below.drewN ?_ _) | (with_reducible refine Below.alloc ?_ ?_ _) | (with_reducible refine Below.drew ?_) | (with_reducible refine Below.setCell ?_ ?_ _) | (with_reducible refine Below.step (by assumption) ?_ ?_) | (with_reducible exact And.left (by assumption)) | go_size))).mono h57.size)
    rw [← HE.out]
    have hz9 := hb9.size
    have q0d : w9.cell? ⟨w.heap.size, 0, none⟩ = some (.slice a n c) := by { rw [cellB hb9 _ _ (by first | (simp; done) | (simp; omega) | omega)]; all_goals (first | assumption | go_simp) }
    have l0d : w.heap.size < w9.heap.size := by omega
    have HB := Lib.hid (show Below w.heap.size w w9 from HB.out.trans ((show Below w7.heap.size w7 w9 by rw [← hw9]; (repeat' (first | (with_reducible exact Below.refl _ _) | (with_reducible assumption) | (with_reducible refine Below.drewN ?_ _) | (with_reducible refine Below.alloc ?_ ?_ _) | (with_reducible refine Below.drew ?_) | (with_reducible refine Below.setCell ?_ ?_ _) | (with_reducible refine Below.step (by assumption) ?_ ?_) | (with_reducible exact And.left (by assumption)) | go_size))).mono HB.out.size))
    clear hb6 hb7 h57 hw9 hb9 hz9 q0 l1
    go_wp2
    go_ret2
    exact ⟨none, 0, 0, rfl, HB.out, PairsR.nil _ _⟩
end Go.Proofs.YtkphbibonagkfaaGreat
