import Derived.Test.YtdklmcicogmeaaaGreatDDfmd
import Derived.Test.YtdklmcicogmeaaaGreatMDRec
/- A network that is changed, with the errors: the program's function. -/
namespace Go.Proofs.YtdklmcicogmeaaaGreat
open Go.RowKit
set_option linter.unusedVariables false

def defoE (s l : List T3) : Int := if firstErr [(netE s).2, defsE s.length l] ≠ 0 then firstErr [(netE s).2, defsE s.length l] else if (netE (dfm s l)).2 ≠ 0 then 22 else 0
theorem netE_ok {s : List T3} (h : (netE s).2 = 0) : 0 < s.length ∧ s.length ≤ 3 ∧ ∀ p ∈ s, secB p = true := by
  unfold netE at h
  by_cases h0 : netH s.length ≠ 0
  · rw [if_pos h0] at h; exact absurd h h0
  · rw [if_neg h0] at h
    have h1 := Decidable.not_not.1 h0
    unfold netH at h1
    obtain ⟨h2, h3⟩ := firstErr_cons.1 h1
    obtain ⟨h4, _⟩ := firstErr_cons.1 h3
    rw [unl_eq_zero (by omega), decide_eq_true_eq] at h2 h4
    refine ⟨by omega, by omega, fun p hp => ?_⟩
    by_cases h5 : 0 ≤ idxFrom (fun p => !secB p) s 0
    · rw [if_pos h5] at h; simp at h
    · have := idxFrom_any (fun p => !secB p) s 0
      have hf : s.any (fun p => !secB p) = false := by rw [← this]; simp; omega
      rw [List.any_eq_false] at hf
      simpa using hf p hp
/-- Sections that a call has made. -/
def SecO (w : World) (a : Option Addr) (k c : Nat) (l : List T3) : Prop := ∃ base, w.ownsRow base 178 3 (.slice a k c) k (ecells e3 l)
theorem SecO.t3 {w : World} {a : Option Addr} {k c : Nat} {l : List T3} (h : SecO w a k c l) : T3R w a k l := by
  obtain ⟨b, h⟩ := h
  exact ER.of_owns (by have := h.1; rw [ecells_len e3_len] at this; omega) h
theorem SecO.below {w w' : World} {a : Option Addr} {k c : Nat} {l : List T3} (h : SecO w a k c l) (hb : Below w.heap.size w w') : SecO w' a k c l := by
  obtain ⟨b, h⟩ := h
  exact ⟨b, owns_below h hb (fun z hz => (h.lt z hz).2)⟩
theorem SecO.nil (w : World) : SecO w none 0 0 [] := ⟨0, World.ownsRow_nil _ _ _ _⟩
/-- A store into a block of another type leaves them. -/
theorem SecO.set {w : World} {X : Nat} {a : Option Addr} {k c : Nat} {l : List T3} {cs : Array Value} (h : SecO w a k c l) (hx : w.heap[X]? = some (.cells cs 81)) (i : Nat) (v : Value) : SecO (w.setCell ⟨X, i, none⟩ v) a k c l := by
  obtain ⟨b, h1⟩ := h
  refine ⟨b, h1.1, ?_⟩
  rcases h1.2 with hn | ⟨g, cap, cur, hv, hbase, hg, rest⟩
  · exact .inl hn
  · refine .inr ⟨g, cap, cur, hv, hbase, ?_, rest⟩
    have hne : g ≠ X := by
      rintro rfl
      rw [hx] at hg
      simp only [Option.some.injEq, Obj.cells.injEq] at hg
      exact absurd hg.2.1 (by decide)
    rw [← hg]
    simp [World.setCell, Array.getElem?_modify, hne.symm]
set_option maxHeartbeats 2000000 in
set_option maxRecDepth 100000 in
theorem deformedO_any (n c m cm : Nat) (a ap : Option Addr) (s l : List T3) (w : World) (hs : T3R w a n s) (hn : n ≤ 100000) (hl : T3R w ap m l) :
    Calls Tryz.prog 46 #[.agg #[.slice a n c], .slice ap m cm] w fun e' w' => ∃ a' n' c', e' = .returned (.tuple #[.agg #[.slice a' n' c'], .int .i64 (defoE s l)]) ∧ Below w.heap.size w w' ∧ SecO w' a' n' c' (if defoE s l = 0 then dfm s l else []) := by
  have hm := hl.small
  have HN := Lib.hid (fun (w' : World) (hb : Below w.heap.size w w') => networkErr_any s a n c w' (hs.below hb))
  have HD := Lib.hid (fun (w' : World) (hb : Below w.heap.size w w') => deformationsErr_any n c m cm a ap l w' (by omega) (hl.below hb))
  have HSN := Lib.hid hs.len
  have HDD := Lib.hid (fun (h : firstErr [(netE s).2, defsE n l] = 0) (W : World) (hb : Below w.heap.size w W) => show Calls Tryz.prog 107 #[.agg #[.slice a n c], .slice ap m cm] W fun e' w' => ∃ a' c', e' = .returned (.agg #[.slice a' n c']) ∧ Below W.heap.size W w' ∧ w'.ownsRow W.heap.size 178 3 (.slice a' n c') n (ecells e3 (dfm s l)) by
    obtain ⟨h1, h2⟩ := firstErr_cons.1 h
    obtain ⟨h2, _⟩ := firstErr_cons.1 h2
    have k1 := netE_ok h1
    have k2 := defsE_zero h2
    exact deformed_any n c m cm a ap s l W (hs.below hb) (by have := hs.len; omega) hn k1.2.2 (hl.below hb) (by have := hl.len; omega) k2.2)
  have hV : defoE s l = if firstErr [(netE s).2, defsE n l] ≠ 0 then firstErr [(netE s).2, defsE n l] else if (netE (dfm s l)).2 ≠ 0 then 22 else 0 := by unfold defoE; rw [hs.len]
  have HLD := Lib.hid (show (dfm s l).length = n by rw [dfm_len]; exact hs.len)
  clear hs hl
  generalize (netE s).2 = e1 at *
  generalize defsE n l = e2 at *
  obtain ⟨D, hD⟩ : ∃ D, D = dfm s l := ⟨_, rfl⟩
  rw [← hD] at HDD HLD hV ⊢
  clear hD
  obtain ⟨V, hVV⟩ : ∃ V, V = defoE s l := ⟨_, rfl⟩
  rw [← hVV] at hV ⊢
  clear hVV
  obtain ⟨E, hE⟩ : ∃ E, E = firstErr [e1, e2] := ⟨_, rfl⟩
  rw [← hE] at HDD hV
  have HE := Lib.hid hE
  clear hE
  by_cases h0 : E = 0
  · rw [if_neg (by rw [h0]; decide)] at hV
    have HDX := Lib.hid (HDD.out h0)
    subst h0
    clear HDD
    by_cases hG : (netE D).2 = 0
    · rw [if_neg (by rw [hG]; decide)] at hV
      subst hV
      rw [if_pos rfl]
      have HND := Lib.hid (fun (a' : Option Addr) (c' : Nat) (W : World) (h : T3R W a' n D) => networkErr_any D a' n c' W h)
      rw [hG] at HND
      clear hG
      go_enter Tryz.func46, Tryz.ntmps46
      go_wp2_with fail
      generalize hW : World.alloc _ _ = w5
      have hb5 : Below w.heap.size w w5 := by rw [← hW]; (repeat' (first | (with_reducible exact Below.refl _ _) | (with_reducible assumption) | (with_reducible refine Below.drewN ?_ _) | (with_reducible refine Below.alloc ?_ ?_ _) | (with_reducible refine Below.drew ?_) | (with_reducible refine Below.setCell ?_ ?_ _) | (with_reducible refine Below.step (by assumption) ?_ ?_) | (with_reducible exact And.left (by assumption)) | go_size))
      have q0 : w5.cell? ⟨w.heap.size, 0, none⟩ = some (.slice a n c) := by { rw [← hW]; clear hW; go_simp }
      have z0 : w5.cell? ⟨w.heap.size + 1, 0, none⟩ = some (.slice none 0 0) := by { rw [← hW]; clear hW; go_simp }
      have f0 : w5.frozen? ⟨w.heap.size + 1, 0, none⟩ = false := by { rw [← hW]; clear hW; go_simp }
      have l1 : w.heap.size + 1 < w5.heap.size := by { rw [← hW]; clear hW; simp }
      have l0 : w.heap.size < w5.heap.size := by omega
      have HB5 := Lib.hid hb5
      clear hW hb5
      refine wp_region_laterM (B := w5.heap.size) [(true, 0), (true, 2), (true, 3), (false, 1), (false, 4), (false, 5), (false, 6), (true, 7)] (by kernel_rfl) (by kernel_rfl) ?_; simp only [opsOf, List.filterMap_cons, List.filterMap_nil, List.getElem?_toArray, List.getElem?_cons_zero, List.getElem?_cons_succ, Option.map_some]
      repeat (refine mix_head ?_; (show wpQuiet _ _ _ _ (_ :: _) _; go_big_quiet_step (fail)); refine wpQuiet_nil ?_)
      refine mix_tail ?_; go_wp2_with fail
      refine (HN.out _ HB5.out.drew).mono ?_
      rintro e6 w6 ⟨rfl, hb6⟩
      have HX := Lib.hid ((Below.refl w5.heap.size w5).drew.trans hb6)
      clear hb6
      go_wp2_with fail
      refine tailL_mk HX.out ?_
      refine mix_tail ?_; go_wp2_with fail
      refine (HD.out _ (HB5.out.trans (HX.out.mono HB5.out.size))).mono ?_
      rintro e7 w7 ⟨rfl, hb7⟩
      have HX := Lib.hid (HX.out.trans (hb7.mono HX.out.size))
      clear hb7
      go_wp2_with fail
      refine tailL_mk HX.out ?_
      refine mix_tail ?_; go_wp2_with fail
      refine tailL_mk (HX.out.alloc HX.out.size _) ?_
      refine mix_tail ?_; go_wp2_with fail
      have HX := Lib.hid (HX.out.alloc HX.out.size (Obj.cells #[.int .i64 e1, .int .i64 e2] 43))
      refine (d_first2 _ _ _ _ _ _ (by rfl) (by simp)).mono ?_
      rintro e8 w8 ⟨rfl, hw8⟩
      rw [hw8] at HX
      rw [← HE.out]
      clear hw8
      go_wp2_with fail
      refine tailL_mk HX.out ?_
      repeat (refine mix_head ?_; (show wpQuiet _ _ _ _ (_ :: _) _; go_big_quiet_step (fail)); refine wpQuiet_nil ?_)
      refine mix_nil ?_
      have hbx := HX.out
      have hzx := hbx.size
      have q0d : w8.cell? ⟨w.heap.size, 0, none⟩ = some (.slice a n c) := by { rw [cellB hbx _ _ (by first | (simp; done) | (simp; omega) | omega)]; all_goals (first | assumption | go_simp) }; have z0d : w8.cell? ⟨w.heap.size + 1, 0, none⟩ = some (.slice none 0 0) := by { rw [cellB hbx _ _ (by first | (simp; done) | (simp; omega) | omega)]; all_goals (first | assumption | go_simp) }; have f0d : w8.frozen? ⟨w.heap.size + 1, 0, none⟩ = false := by { rw [frozenB hbx _ _ (by first | (simp; done) | (simp; omega) | omega)]; all_goals (first | assumption | go_simp) }; have l0d : w.heap.size < w8.heap.size := by { omega }; have l1d : w.heap.size + 1 < w8.heap.size := by { omega }
      have HB8 := Lib.hid (HB5.out.trans (hbx.mono HB5.out.size))
      clear hbx hzx HX HB5 q0 z0 f0 l0 l1
      go_wp2_with fail
      refine (HDX.out _ HB8.out).mono ?_
      rintro e9 w9 ⟨a9, c9, rfl, hb9, ho9⟩
      have hz9 := hb9.size
      have z0 : w9.cell? ⟨w.heap.size + 1, 0, none⟩ = some (.slice none 0 0) := by { rw [cellB hb9 _ _ (by first | (simp; done) | (simp; omega) | omega)]; all_goals (first | assumption | go_simp) }; have f0 : w9.frozen? ⟨w.heap.size + 1, 0, none⟩ = false := by { rw [frozenB hb9 _ _ (by first | (simp; done) | (simp; omega) | omega)]; all_goals (first | assumption | go_simp) }; have l1 : w.heap.size + 1 < w9.heap.size := by { omega }
      have HB9 := Lib.hid (HB8.out.trans (hb9.mono HB8.out.size))
      have HO9 := Lib.hid ho9
      have lB : w.heap.size + 1 < w8.heap.size := by omega
      clear hb9 ho9 q0d z0d f0d l0d l1d
      go_wp2_with fail
      generalize hW : World.alloc _ _ = wa
      have hba : Below w9.heap.size w9 wa := by rw [← hW]; (repeat' (first | (with_reducible exact Below.refl _ _) | (with_reducible assumption) | (with_reducible refine Below.drewN ?_ _) | (with_reducible refine Below.alloc ?_ ?_ _) | (with_reducible refine Below.drew ?_) | (with_reducible refine Below.setCell ?_ ?_ _) | (with_reducible refine Below.step (by assumption) ?_ ?_) | (with_reducible exact And.left (by assumption)) | go_size))
      have t0 : wa.cell? ⟨w9.heap.size, 0, none⟩ = some (.slice a9 n c9) := by { rw [← hW]; clear hW; go_simp }
      have la : w9.heap.size < wa.heap.size := by { rw [← hW]; clear hW; simp }
      have z1 : wa.cell? ⟨w.heap.size + 1, 0, none⟩ = some (.slice none 0 0) := by { rw [cellB hba _ _ (by first | (simp; done) | (simp; omega) | omega)]; all_goals (first | assumption | go_simp) }; have f1 : wa.frozen? ⟨w.heap.size + 1, 0, none⟩ = false := by { rw [frozenB hba _ _ (by first | (simp; done) | (simp; omega) | omega)]; all_goals (first | assumption | go_simp) }
      have l2 : w.heap.size + 1 < wa.heap.size := by omega
      have HOa := Lib.hid (owns_below HO9.out hba (fun z hz => (HO9.out.lt z hz).2))
      have HBa := Lib.hid (HB9.out.trans (hba.mono HB9.out.size))
      have HTa := Lib.hid (show T3R wa a9 n D from ER.of_owns HLD.out HOa.out)
      obtain ⟨X7, hX7⟩ : ∃ X, X = w9.heap.size := ⟨_, rfl⟩
      rw [← hX7] at t0 la ⊢
      have l17 : w.heap.size + 1 < X7 := by omega
      clear hW hba z0 f0 l1 hX7 hz9 HO9
      refine (HND.out a9 c9 wa HTa.out).mono ?_
      rintro eb wb ⟨rfl, hbb⟩
      have hzb := hbb.size
      have t0b : wb.cell? ⟨X7, 0, none⟩ = some (.slice a9 n c9) := by { rw [cellB hbb _ _ (by first | (simp; done) | (simp; omega) | omega)]; all_goals (first | assumption | go_simp) }; have z0 : wb.cell? ⟨w.heap.size + 1, 0, none⟩ = some (.slice none 0 0) := by { rw [cellB hbb _ _ (by first | (simp; done) | (simp; omega) | omega)]; all_goals (first | assumption | go_simp) }; have f0 : wb.frozen? ⟨w.heap.size + 1, 0, none⟩ = false := by { rw [frozenB hbb _ _ (by first | (simp; done) | (simp; omega) | omega)]; all_goals (first | assumption | go_simp) }
      have l1 : w.heap.size + 1 < wb.heap.size := by omega
      have l7 : X7 < wb.heap.size := by omega
      have HBb := Lib.hid (HBa.out.trans (hbb.mono HBa.out.size))
      have HOb := Lib.hid (owns_below HOa.out hbb (fun z hz => (HOa.out.lt z hz).2))
      clear hbb t0 z1 f1 hzb
      go_wp2_with fail
      generalize hW : World.setCell _ _ _ = wz
      have rz : wz.cell? ⟨w.heap.size + 1, 0, none⟩ = some (.slice a9 n c9) := by { rw [← hW]; clear hW; go_simp }
      have hbz : Below w.heap.size w wz := by { rw [← hW]; have := HBb.out; (repeat' (first | (with_reducible exact Below.refl _ _) | (with_reducible assumption) | (with_reducible refine Below.drewN ?_ _) | (with_reducible refine Below.alloc ?_ ?_ _) | (with_reducible refine Below.drew ?_) | (with_reducible refine Below.setCell ?_ ?_ _) | (with_reducible refine Below.step (by assumption) ?_ ?_) | (with_reducible exact And.left (by assumption)) | go_size)) }
      have htz : SecO wz a9 n c9 D := by { rw [← hW]; have := HOb.out; exact ⟨w8.heap.size, (show World.ownsRow _ w8.heap.size 178 3 (.slice a9 n c9) n (ecells e3 D) by (repeat' (first | (with_reducible assumption) | ((with_reducible refine owns_lit ?_ ?_ ?_ ?_) <;> first | (simp; done) | (simp; omega) | omega) | (with_reducible refine World.ownsRow.alloc ?_ _) | (with_reducible refine World.ownsRow.drew ?_) | (with_reducible refine owns_drewN ?_ _) | (with_reducible refine ownsRow_setCell_below ?_ ?_ _) | (simp; done) | (simp; omega) | omega)))⟩ }
      clear hW
      exact bodyPost_ret (v := .tuple #[.agg #[.slice a9 n c9], .int .i64 0]) (by simp [results, Tryz.results46, go_sem, rz]) rfl ⟨a9, n, c9, rfl, hbz, htz⟩
    · rw [if_pos hG] at hV
      subst hV
      rw [if_neg (by decide)]
      have HND := Lib.hid (fun (a' : Option Addr) (c' : Nat) (W : World) (h : T3R W a' n D) => networkErr_any D a' n c' W h)
      generalize (netE D).2 = G at *
      have hG1 : (G != 0) = true := by simpa using hG
      clear hG
      go_enter Tryz.func46, Tryz.ntmps46
      go_wp2_with fail
      generalize hW : World.alloc _ _ = w5
      have hb5 : Below w.heap.size w w5 := by rw [← hW]; (repeat' (first | (with_reducible exact Below.refl _ _) | (with_reducible assumption) | (with_reducible refine Below.drewN ?_ _) | (with_reducible refine Below.alloc ?_ ?_ _) | (with_reducible refine Below.drew ?_) | (with_reducible refine Below.setCell ?_ ?_ _) | (with_reducible refine Below.step (by assumption) ?_ ?_) | (with_reducible exact And.left (by assumption)) | go_size))
      have q0 : w5.cell? ⟨w.heap.size, 0, none⟩ = some (.slice a n c) := by { rw [← hW]; clear hW; go_simp }
      have z0 : w5.cell? ⟨w.heap.size + 1, 0, none⟩ = some (.slice none 0 0) := by { rw [← hW]; clear hW; go_simp }
      have f0 : w5.frozen? ⟨w.heap.size + 1, 0, none⟩ = false := by { rw [← hW]; clear hW; go_simp }
      have l1 : w.heap.size + 1 < w5.heap.size := by { rw [← hW]; clear hW; simp }
      have l0 : w.heap.size < w5.heap.size := by omega
      have HB5 := Lib.hid hb5
      clear hW hb5
      refine wp_region_laterM (B := w5.heap.size) [(true, 0), (true, 2), (true, 3), (false, 1), (false, 4), (false, 5), (false, 6), (true, 7)] (by kernel_rfl) (by kernel_rfl) ?_; simp only [opsOf, List.filterMap_cons, List.filterMap_nil, List.getElem?_toArray, List.getElem?_cons_zero, List.getElem?_cons_succ, Option.map_some]
      repeat (refine mix_head ?_; (show wpQuiet _ _ _ _ (_ :: _) _; go_big_quiet_step (fail)); refine wpQuiet_nil ?_)
      refine mix_tail ?_; go_wp2_with fail
      refine (HN.out _ HB5.out.drew).mono ?_
      rintro e6 w6 ⟨rfl, hb6⟩
      have HX := Lib.hid ((Below.refl w5.heap.size w5).drew.trans hb6)
      clear hb6
      go_wp2_with fail
      refine tailL_mk HX.out ?_
      refine mix_tail ?_; go_wp2_with fail
      refine (HD.out _ (HB5.out.trans (HX.out.mono HB5.out.size))).mono ?_
      rintro e7 w7 ⟨rfl, hb7⟩
      have HX := Lib.hid (HX.out.trans (hb7.mono HX.out.size))
      clear hb7
      go_wp2_with fail
      refine tailL_mk HX.out ?_
      refine mix_tail ?_; go_wp2_with fail
      refine tailL_mk (HX.out.alloc HX.out.size _) ?_
      refine mix_tail ?_; go_wp2_with fail
      have HX := Lib.hid (HX.out.alloc HX.out.size (Obj.cells #[.int .i64 e1, .int .i64 e2] 43))
      refine (d_first2 _ _ _ _ _ _ (by rfl) (by simp)).mono ?_
      rintro e8 w8 ⟨rfl, hw8⟩
      rw [hw8] at HX
      rw [← HE.out]
      clear hw8
      go_wp2_with fail
      refine tailL_mk HX.out ?_
      repeat (refine mix_head ?_; (show wpQuiet _ _ _ _ (_ :: _) _; go_big_quiet_step (fail)); refine wpQuiet_nil ?_)
      refine mix_nil ?_
      have hbx := HX.out
      have hzx := hbx.size
      have q0d : w8.cell? ⟨w.heap.size, 0, none⟩ = some (.slice a n c) := by { rw [cellB hbx _ _ (by first | (simp; done) | (simp; omega) | omega)]; all_goals (first | assumption | go_simp) }; have z0d : w8.cell? ⟨w.heap.size + 1, 0, none⟩ = some (.slice none 0 0) := by { rw [cellB hbx _ _ (by first | (simp; done) | (simp; omega) | omega)]; all_goals (first | assumption | go_simp) }; have f0d : w8.frozen? ⟨w.heap.size + 1, 0, none⟩ = false := by { rw [frozenB hbx _ _ (by first | (simp; done) | (simp; omega) | omega)]; all_goals (first | assumption | go_simp) }; have l0d : w.heap.size < w8.heap.size := by { omega }; have l1d : w.heap.size + 1 < w8.heap.size := by { omega }
      have HB8 := Lib.hid (HB5.out.trans (hbx.mono HB5.out.size))
      clear hbx hzx HX HB5 q0 z0 f0 l0 l1
      go_wp2_with fail
      refine (HDX.out _ HB8.out).mono ?_
      rintro e9 w9 ⟨a9, c9, rfl, hb9, ho9⟩
      have hz9 := hb9.size
      have z0 : w9.cell? ⟨w.heap.size + 1, 0, none⟩ = some (.slice none 0 0) := by { rw [cellB hb9 _ _ (by first | (simp; done) | (simp; omega) | omega)]; all_goals (first | assumption | go_simp) }; have f0 : w9.frozen? ⟨w.heap.size + 1, 0, none⟩ = false := by { rw [frozenB hb9 _ _ (by first | (simp; done) | (simp; omega) | omega)]; all_goals (first | assumption | go_simp) }; have l1 : w.heap.size + 1 < w9.heap.size := by { omega }
      have HB9 := Lib.hid (HB8.out.trans (hb9.mono HB8.out.size))
      have HO9 := Lib.hid ho9
      have lB : w.heap.size + 1 < w8.heap.size := by omega
      clear hb9 ho9 q0d z0d f0d l0d l1d
      go_wp2_with fail
      generalize hW : World.alloc _ _ = wa
      have hba : Below w9.heap.size w9 wa := by rw [← hW]; (repeat' (first | (with_reducible exact Below.refl _ _) | (with_reducible assumption) | (with_reducible refine Below.drewN ?_ _) | (with_reducible refine Below.alloc ?_ ?_ _) | (with_reducible refine Below.drew ?_) | (with_reducible refine Below.setCell ?_ ?_ _) | (with_reducible refine Below.step (by assumption) ?_ ?_) | (with_reducible exact And.left (by assumption)) | go_size))
      have t0 : wa.cell? ⟨w9.heap.size, 0, none⟩ = some (.slice a9 n c9) := by { rw [← hW]; clear hW; go_simp }
      have la : w9.heap.size < wa.heap.size := by { rw [← hW]; clear hW; simp }
      have z1 : wa.cell? ⟨w.heap.size + 1, 0, none⟩ = some (.slice none 0 0) := by { rw [cellB hba _ _ (by first | (simp; done) | (simp; omega) | omega)]; all_goals (first | assumption | go_simp) }; have f1 : wa.frozen? ⟨w.heap.size + 1, 0, none⟩ = false := by { rw [frozenB hba _ _ (by first | (simp; done) | (simp; omega) | omega)]; all_goals (first | assumption | go_simp) }
      have l2 : w.heap.size + 1 < wa.heap.size := by omega
      have HOa := Lib.hid (owns_below HO9.out hba (fun z hz => (HO9.out.lt z hz).2))
      have HBa := Lib.hid (HB9.out.trans (hba.mono HB9.out.size))
      have HTa := Lib.hid (show T3R wa a9 n D from ER.of_owns HLD.out HOa.out)
      obtain ⟨X7, hX7⟩ : ∃ X, X = w9.heap.size := ⟨_, rfl⟩
      rw [← hX7] at t0 la ⊢
      have l17 : w.heap.size + 1 < X7 := by omega
      clear hW hba z0 f0 l1 hX7 hz9 HO9
      refine (HND.out a9 c9 wa HTa.out).mono ?_
      rintro eb wb ⟨rfl, hbb⟩
      have hzb := hbb.size
      have t0b : wb.cell? ⟨X7, 0, none⟩ = some (.slice a9 n c9) := by { rw [cellB hbb _ _ (by first | (simp; done) | (simp; omega) | omega)]; all_goals (first | assumption | go_simp) }; have z0 : wb.cell? ⟨w.heap.size + 1, 0, none⟩ = some (.slice none 0 0) := by { rw [cellB hbb _ _ (by first | (simp; done) | (simp; omega) | omega)]; all_goals (first | assumption | go_simp) }; have f0 : wb.frozen? ⟨w.heap.size + 1, 0, none⟩ = false := by { rw [frozenB hbb _ _ (by first | (simp; done) | (simp; omega) | omega)]; all_goals (first | assumption | go_simp) }
      have l1 : w.heap.size + 1 < wb.heap.size := by omega
      have l7 : X7 < wb.heap.size := by omega
      have HBb := Lib.hid (HBa.out.trans (hbb.mono HBa.out.size))
      have HOb := Lib.hid (owns_below HOa.out hbb (fun z hz => (HOa.out.lt z hz).2))
      clear hbb t0 z1 f1 hzb
      go_wp2_with fail
      generalize hW : World.setCell _ _ _ = wz
      have rz : wz.cell? ⟨w.heap.size + 1, 0, none⟩ = some (.slice none 0 0) := by { rw [← hW]; clear hW; go_simp }
      have hbz : Below w.heap.size w wz := by { rw [← hW]; have := HBb.out; (repeat' (first | (with_reducible exact Below.refl _ _) | (with_reducible assumption) | (with_reducible refine Below.drewN ?_ _) | (with_reducible refine Below.alloc ?_ ?_ _) | (with_reducible refine Below.drew ?_) | (with_reducible refine Below.setCell ?_ ?_ _) | (with_reducible refine Below.step (by assumption) ?_ ?_) | (with_reducible exact And.left (by assumption)) | go_size)) }
      clear hW
      exact bodyPost_ret (v := .tuple #[.agg #[.slice none 0 0], .int .i64 22]) (by simp [results, Tryz.results46, go_sem, rz]) rfl ⟨none, 0, 0, rfl, hbz, SecO.nil _⟩
  · rw [if_pos h0] at hV
    have hV0 : V ≠ 0 := by rw [hV]; exact h0
    rw [if_neg hV0]
    subst hV
    have hE1 : (V != 0) = true := by simpa using h0
    clear HDD h0 hV0
    go_enter Tryz.func46, Tryz.ntmps46
    go_wp2_with fail
    generalize hW : World.alloc _ _ = w5
    have hb5 : Below w.heap.size w w5 := by rw [← hW]; (repeat' (first | (with_reducible exact Below.refl _ _) | (with_reducible assumption) | (with_reducible refine Below.drewN ?_ _) | (with_reducible refine Below.alloc ?_ ?_ _) | (with_reducible refine Below.drew ?_) | (with_reducible refine Below.setCell ?_ ?_ _) | (with_reducible refine Below.step (by assumption) ?_ ?_) | (with_reducible exact And.left (by assumption)) | go_size))
    have q0 : w5.cell? ⟨w.heap.size, 0, none⟩ = some (.slice a n c) := by { rw [← hW]; clear hW; go_simp }
    have z0 : w5.cell? ⟨w.heap.size + 1, 0, none⟩ = some (.slice none 0 0) := by { rw [← hW]; clear hW; go_simp }
    have f0 : w5.frozen? ⟨w.heap.size + 1, 0, none⟩ = false := by { rw [← hW]; clear hW; go_simp }
    have l1 : w.heap.size + 1 < w5.heap.size := by { rw [← hW]; clear hW; simp }
    have l0 : w.heap.size < w5.heap.size := by omega
    have HB5 := Lib.hid hb5
    clear hW hb5
    refine wp_region_laterM (B := w5.heap.size) [(true, 0), (true, 2), (true, 3), (false, 1), (false, 4), (false, 5), (false, 6), (true, 7)] (by kernel_rfl) (by kernel_rfl) ?_; simp only [opsOf, List.filterMap_cons, List.filterMap_nil, List.getElem?_toArray, List.getElem?_cons_zero, List.getElem?_cons_succ, Option.map_some]
    repeat (refine mix_head ?_; (show wpQuiet _ _ _ _ (_ :: _) _; go_big_quiet_step (fail)); refine wpQuiet_nil ?_)
    refine mix_tail ?_; go_wp2_with fail
    refine (HN.out _ HB5.out.drew).mono ?_
    rintro e6 w6 ⟨rfl, hb6⟩
    have HX := Lib.hid ((Below.refl w5.heap.size w5).drew.trans hb6)
    clear hb6
    go_wp2_with fail
    refine tailL_mk HX.out ?_
    refine mix_tail ?_; go_wp2_with fail
    refine (HD.out _ (HB5.out.trans (HX.out.mono HB5.out.size))).mono ?_
    rintro e7 w7 ⟨rfl, hb7⟩
    have HX := Lib.hid (HX.out.trans (hb7.mono HX.out.size))
    clear hb7
    go_wp2_with fail
    refine tailL_mk HX.out ?_
    refine mix_tail ?_; go_wp2_with fail
    refine tailL_mk (HX.out.alloc HX.out.size _) ?_
    refine mix_tail ?_; go_wp2_with fail
    have HX := Lib.hid (HX.out.alloc HX.out.size (Obj.cells #[.int .i64 e1, .int .i64 e2] 43))
    refine (d_first2 _ _ _ _ _ _ (by rfl) (by simp)).mono ?_
    rintro e8 w8 ⟨rfl, hw8⟩
    rw [hw8] at HX
    rw [← HE.out]
    clear hw8
    go_wp2_with fail
    refine tailL_mk HX.out ?_
    repeat (refine mix_head ?_; (show wpQuiet _ _ _ _ (_ :: _) _; go_big_quiet_step (fail)); refine wpQuiet_nil ?_)
    refine mix_nil ?_
    have hbx := HX.out
    have hzx := hbx.size
    have q0d : w8.cell? ⟨w.heap.size, 0, none⟩ = some (.slice a n c) := by { rw [cellB hbx _ _ (by first | (simp; done) | (simp; omega) | omega)]; all_goals (first | assumption | go_simp) }; have z0d : w8.cell? ⟨w.heap.size + 1, 0, none⟩ = some (.slice none 0 0) := by { rw [cellB hbx _ _ (by first | (simp; done) | (simp; omega) | omega)]; all_goals (first | assumption | go_simp) }; have f0d : w8.frozen? ⟨w.heap.size + 1, 0, none⟩ = false := by { rw [frozenB hbx _ _ (by first | (simp; done) | (simp; omega) | omega)]; all_goals (first | assumption | go_simp) }; have l0d : w.heap.size < w8.heap.size := by { omega }; have l1d : w.heap.size + 1 < w8.heap.size := by { omega }
    have HB8 := Lib.hid (HB5.out.trans (hbx.mono HB5.out.size))
    clear hbx hzx HX HB5 q0 z0 f0 l0 l1
    go_wp2_with fail
    generalize hW : World.setCell _ _ _ = wz
    have rz : wz.cell? ⟨w.heap.size + 1, 0, none⟩ = some (.slice none 0 0) := by { rw [← hW]; clear hW; go_simp }
    have hbz : Below w.heap.size w wz := by { rw [← hW]; have := HB8.out; (repeat' (first | (with_reducible exact Below.refl _ _) | (with_reducible assumption) | (with_reducible refine Below.drewN ?_ _) | (with_reducible refine Below.alloc ?_ ?_ _) | (with_reducible refine Below.drew ?_) | (with_reducible refine Below.setCell ?_ ?_ _) | (with_reducible refine Below.step (by assumption) ?_ ?_) | (with_reducible exact And.left (by assumption)) | go_size)) }
    clear hW
    exact bodyPost_ret (v := .tuple #[.agg #[.slice none 0 0], .int .i64 V]) (by simp [results, Tryz.results46, go_sem, rz]) rfl ⟨none, 0, 0, rfl, hbz, SecO.nil _⟩
theorem deformedX_any (n c m cm : Nat) (a ap : Option Addr) (s l : List T3) (w : World) (hs : T3R w a n s) (hn : n ≤ 100000) (hl : T3R w ap m l) :
    Calls Tryz.prog 46 #[.agg #[.slice a n c], .slice ap m cm] w fun e' w' => ∃ a' n' c', e' = .returned (.tuple #[.agg #[.slice a' n' c'], .int .i64 (defoE s l)]) ∧ Below w.heap.size w w' ∧ T3R w' a' n' (if defoE s l = 0 then dfm s l else []) :=
  (deformedO_any n c m cm a ap s l w hs hn hl).mono fun e' w' ⟨a', n', c', he, hb, ho⟩ => ⟨a', n', c', he, hb, ho.t3⟩
end Go.Proofs.YtdklmcicogmeaaaGreat
