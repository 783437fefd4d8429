import Derived.Test.YtdklmcicogmeaaaGreatMDDef
/- A network that is deformed: the program's function. -/
namespace Go.Proofs.YtdklmcicogmeaaaGreat
open Go.RowKit
set_option linter.unusedVariables false

theorem bd_all {s l : List T3} (hs : ∀ p ∈ s, secB p = true) (hl : ∀ k, k < l.length → -10 ≤ (pAt l k).z ∧ (pAt l k).z ≤ 10) : ∀ k, k ≤ l.length → ∀ p ∈ dfm s (l.take k), Bd k p
  | 0, _, p, hp => by
    have := hs p (by simpa [dfm] using hp)
    simp only [secB, Bool.and_eq_true, wi_iff] at this
    unfold Bd; omega
  | k + 1, hk, p, hp => by
    have ih := bd_all hs hl k (by omega)
    have hx := List.getElem?_eq_getElem (show k < l.length by omega)
    rw [take_last hx, dfm_snoc] at hp
    have hz := hl k (by omega)
    rw [pAt_get3 hx] at hz
    have := bd_step ih (by omega) hz p hp
    exact this
set_option maxHeartbeats 2000000 in
set_option maxRecDepth 100000 in
theorem deformed_any (n c m cm : Nat) (a ap : Option Addr) (s l : List T3) (w : World) (hs : T3R w a n s) (h0 : 0 < n) (hn : n ≤ 100000) (hsb : ∀ p ∈ s, secB p = true) (hl : T3R w ap m l) (h6 : m ≤ 6)
    (hd : ∀ k, k < l.length → (0 ≤ (pAt l k).x ∧ (pAt l k).x < (n : Int)) ∧ (0 ≤ (pAt l k).y ∧ (pAt l k).y ≤ 2) ∧ (-10 ≤ (pAt l k).z ∧ (pAt l k).z ≤ 10)) :
    Calls Tryz.prog 107 #[.agg #[.slice a n c], .slice ap m cm] w fun e' w' => ∃ a' c', e' = .returned (.agg #[.slice a' n c']) ∧ Below w.heap.size w w' ∧ w'.ownsRow w.heap.size 178 3 (.slice a' n c') n (ecells e3 (dfm s l)) := by
  have hm := hl.small
  have HL := Lib.hid hl
  have HLN := Lib.hid hl.len
  have HSN := Lib.hid hs.len
  have HC := Lib.hid (fun w' hb => cloneSecs_any s a n c w' (hs.below hb) h0 hn)
  have HD := Lib.hid hd
  have HBD := Lib.hid (bd_all hsb (fun k hk => (hd k hk).2.2))
  clear hs hl hd hsb
  go_enter Tryz.func107, Tryz.ntmps107
  go_wp2_with fail
  refine (HC.out _ (by (repeat' (first | (with_reducible exact Below.refl _ _) | (with_reducible assumption) | (with_reducible refine Below.drewN ?_ _) | (with_reducible refine Below.alloc ?_ ?_ _) | (with_reducible refine Below.drew ?_) | (with_reducible refine Below.setCell ?_ ?_ _) | (with_reducible refine Below.step (by assumption) ?_ ?_) | (with_reducible exact And.left (by assumption)) | go_size)))).mono ?_
  rintro e5 w5 ⟨av, cv, rfl, hb5, ho5⟩
  have hz5 := hb5.size
  simp only [World.size_alloc] at hz5 ho5
  have q0 : w5.cell? ⟨w.heap.size, 0, none⟩ = some (.slice a n c) := by { rw [cellB hb5 _ _ (by first | (simp; done) | (simp; omega) | omega)]; all_goals (first | assumption | go_simp) }; have r0 : w5.cell? ⟨w.heap.size + 1, 0, none⟩ = some (.slice none 0 0) := by { rw [cellB hb5 _ _ (by first | (simp; done) | (simp; omega) | omega)]; all_goals (first | assumption | go_simp) }; have f0 : w5.frozen? ⟨w.heap.size, 0, none⟩ = false := by { rw [frozenB hb5 _ _ (by first | (simp; done) | (simp; omega) | omega)]; all_goals (first | assumption | go_simp) }; have f1 : w5.frozen? ⟨w.heap.size + 1, 0, none⟩ = false := by { rw [frozenB hb5 _ _ (by first | (simp; done) | (simp; omega) | omega)]; all_goals (first | assumption | go_simp) }
  have l0 : w.heap.size < w5.heap.size := by omega
  have l1 : w.heap.size + 1 < w5.heap.size := by omega
  have HB5 := Lib.hid (show Below w.heap.size w w5 by (repeat' (first | (with_reducible exact Below.refl _ _) | (with_reducible assumption) | (with_reducible refine Below.drewN ?_ _) | (with_reducible refine Below.alloc ?_ ?_ _) | (with_reducible refine Below.drew ?_) | (with_reducible refine Below.setCell ?_ ?_ _) | (with_reducible refine Below.step (by assumption) ?_ ?_) | (with_reducible exact And.left (by assumption)) | go_size)))
  have HO5 := Lib.hid ho5
  clear hb5 ho5 HC
  go_wp2_with fail
  obtain ⟨B, hB0⟩ : ∃ B, B = w.heap.size := ⟨_, rfl⟩
  generalize hW : World.setCell _ _ _ = w6
  have q6 : w6.cell? ⟨w.heap.size, 0, none⟩ = some (.slice av n cv) := by { rw [← hW]; clear hW; go_simp }
  have r6 : w6.cell? ⟨w.heap.size + 1, 0, none⟩ = some (.slice none 0 0) := by { rw [← hW]; clear hW; go_simp }
  have f6 : w6.frozen? ⟨w.heap.size + 1, 0, none⟩ = false := by { rw [← hW]; clear hW; go_simp }
  have z6 : w.heap.size + 2 ≤ w6.heap.size := by { rw [← hW]; clear hW; simp; omega }
  obtain ⟨g, hg, hgb, rfl⟩ : ∃ g, w.heap.size + 2 ≤ g ∧ g < w5.heap.size ∧ av = some ⟨g, 0, none⟩ := by
    rcases HO5.out.2 with ⟨h0', _⟩ | ⟨g, cap, cur, hv, hbase, hb, _, _, _, _⟩
    · simp at h0'; omega
    · cases hv; exact ⟨g, by omega, (Array.getElem?_eq_some_iff.1 hb).1, rfl⟩
  have HO6 := Lib.hid (show w6.ownsRow (w.heap.size + 2) 178 3 (.slice (some ⟨g, 0, none⟩) n cv) n (ecells e3 s) by rw [← hW]; exact ownsRow_setCell_other HO5.out (a := ⟨w.heap.size, 0, none⟩) (by simp [Value.ownBlock]; omega) _)
  have HB6 := Lib.hid (show Below w.heap.size w w6 by { rw [← hW]; have := HB5.out; (repeat' (first | (with_reducible exact Below.refl _ _) | (with_reducible assumption) | (with_reducible refine Below.drewN ?_ _) | (with_reducible refine Below.alloc ?_ ?_ _) | (with_reducible refine Below.drew ?_) | (with_reducible refine Below.setCell ?_ ?_ _) | (with_reducible refine Below.step (by assumption) ?_ ?_) | (with_reducible exact And.left (by assumption)) | go_size)) })
  clear hW q0 r0 f0 f1 l0 l1 HB5 HO5 hgb hz5
  go_loopw [13] (fun i wr => ∃ k : Nat, i = .int .i64 k ∧ k ≤ m ∧ Hid (wr.ownsRow (w.heap.size + 2) 178 3 (.slice (some ⟨g, 0, none⟩) n cv) n (ecells e3 (dfm s (l.take k)))) ∧ wr.cell? ⟨w.heap.size, 0, none⟩ = some (.slice (some ⟨g, 0, none⟩) n cv) ∧ wr.cell? ⟨w.heap.size + 1, 0, none⟩ = some (.slice none 0 0) ∧ wr.frozen? ⟨w.heap.size + 1, 0, none⟩ = false ∧ g < wr.heap.size ∧ Hid (Below w.heap.size w wr)) (fun i _ => m - (intOf i).toNat)
  case atStart => exact ⟨0, rfl, Nat.zero_le _, HO6, q6, r6, f6, (HO6.out.lt g rfl).2, HB6⟩
  case round =>
    obtain ⟨k, rfl, hk, hO, hq, hr, hf, hgl, hB⟩ := hrel
    have i0 : (0 : Int) ≤ (k : Int) := by omega
    clear q6 r6 f6 z6 HO6 HB6
    by_cases hlt : k < m
    · obtain ⟨b0, o0, rfl, hb0, hcs⟩ := (HL.out.below hB.out).addr (by omega)
      obtain ⟨⟨x, y, z⟩, hx⟩ := ER.get HL.out hlt
      obtain ⟨c0, c1, c2⟩ := hcs k _ hx
      obtain ⟨⟨hx0, hx1⟩, ⟨hy0, hy1⟩, hz⟩ := (pAt_get3 hx) ▸ HD.out k (by rw [HLN.out]; exact hlt)
      simp only at c0 c1 c2 hx0 hx1 hy0 hy1 hz
      obtain ⟨xn, rfl⟩ : ∃ q : Nat, x = q := ⟨x.toNat, by omega⟩
      have hds : (dfm s (l.take k)).length = n := by rw [dfm_len, HSN.out]
      obtain ⟨⟨p1, p2, p3⟩, hp⟩ := get_of_lt hds (show xn < n by omega)
      have hbd := HBD.out k (by rw [HLN.out]; omega) _ (List.mem_of_getElem? hp)
      unfold Bd at hbd
      simp only at hbd
      have hT : dfm s (l.take (k + 1)) = (dfm s (l.take k)).modify xn (bump y z) := by rw [take_last hx, dfm_snoc]; rfl
      have w2 : ((xn : Nat) : Int).toNat = xn := by omega
      have hxl : ((xn : Nat) : Int) < (n : Int) := hx1
      have i1 : (k : Int) < (m : Int) := by omega
      have HT := Lib.hid hT
      have HP := Lib.hid hp
      have lw : w.heap.size < wr.heap.size := by have := hB.out.size; omega
      have lw1 : w.heap.size + 1 < wr.heap.size := by omega
      clear hx hcs hT hds
      rcases (show y = 0 ∨ y = 1 ∨ y = 2 by omega) with rfl | rfl | rfl
      · skip
        have hv := hO.out.cellAt (xn * 3 + 0) (by omega)
        rw [ecells_get e3_len HP.out 0 (by omega)] at hv
        have hv' : wr.cell? ⟨g, xn * 3, none⟩ = some (.int .i64 p1) := hv
        have ww : wrap64 (p1 + z) = p1 + z := by unfold wrap64; omega
        have HS := Lib.hid (set_modify (z := z) (y := 0) (v := p1 + z) HP.out (by simp))
        clear hv
        go_wp2_with fail
        generalize hW : World.alloc _ _ = wd
        have hbd' : Below wr.heap.size wr wd := by rw [← hW]; (repeat' (first | (with_reducible exact Below.refl _ _) | (with_reducible assumption) | (with_reducible refine Below.drewN ?_ _) | (with_reducible refine Below.alloc ?_ ?_ _) | (with_reducible refine Below.drew ?_) | (with_reducible refine Below.setCell ?_ ?_ _) | (with_reducible refine Below.step (by assumption) ?_ ?_) | (with_reducible exact And.left (by assumption)) | go_size))
        have y0 : wd.cell? ⟨wr.heap.size, 0, none⟩ = some (.int .i64 xn) := by { rw [← hW]; clear hW; go_simp }
        have y1 : wd.cell? ⟨wr.heap.size, 1, none⟩ = some (.int .i64 0) := by { rw [← hW]; clear hW; go_simp }
        have y2 : wd.cell? ⟨wr.heap.size, 2, none⟩ = some (.int .i64 z) := by { rw [← hW]; clear hW; go_simp }
        have ly : wr.heap.size < wd.heap.size := by { rw [← hW]; clear hW; simp }
        have qd : wd.cell? ⟨w.heap.size, 0, none⟩ = some (.slice (some ⟨g, 0, none⟩) n cv) := by rw [cellB hbd' _ _ lw]; exact hq
        have rd : wd.cell? ⟨w.heap.size + 1, 0, none⟩ = some (.slice none 0 0) := by rw [cellB hbd' _ _ lw1]; exact hr
        have fd : wd.frozen? ⟨w.heap.size + 1, 0, none⟩ = false := by rw [frozenB hbd' _ _ lw1]; exact hf
        have vd : wd.cell? ⟨g, xn * 3, none⟩ = some (.int .i64 p1) := by rw [cellB hbd' _ _ hgl]; exact hv'
        have HOd := Lib.hid (owns_below hO.out hbd' (fun q hq => (hO.out.lt q hq).2))
        have HBd := Lib.hid (hB.out.trans (hbd'.mono (by omega)))
        have lwd : w.heap.size < wd.heap.size := by omega
        have lgd : g < wd.heap.size := by omega
        have lw1d : w.heap.size + 1 < wd.heap.size := by omega
        clear hW hbd' hv' hq hr hf hO hB c0 c1 c2
        refine later_of_eq 13 (by kernel_rfl) (by kernel_rfl) ?_; simp only [List.take_succ_cons, List.take_zero, List.drop_succ_cons, List.drop_zero]; repeat go_big_quiet_step (with_reducible exact calls_later (numbers_any _ _ _))
        refine wpQuiet_nil ?_; intro we hbe
        have HOe := Lib.hid (owns_below HOd.out hbe (fun q hq => (HOd.out.lt q hq).2))
        have hze := hbe.size
        have qe : we.cell? ⟨w.heap.size, 0, none⟩ = some (.slice (some ⟨g, 0, none⟩) n cv) := by { rw [cellB hbe _ _ (by first | (simp; done) | (simp; omega) | omega)]; all_goals (first | assumption | go_simp) }; have re : we.cell? ⟨w.heap.size + 1, 0, none⟩ = some (.slice none 0 0) := by { rw [cellB hbe _ _ (by first | (simp; done) | (simp; omega) | omega)]; all_goals (first | assumption | go_simp) }; have fe : we.frozen? ⟨w.heap.size + 1, 0, none⟩ = false := by { rw [frozenB hbe _ _ (by first | (simp; done) | (simp; omega) | omega)]; all_goals (first | assumption | go_simp) }; have ve : we.cell? ⟨g, xn * 3, none⟩ = some (.int .i64 p1) := by { rw [cellB hbe _ _ (by first | (simp; done) | (simp; omega) | omega)]; all_goals (first | assumption | go_simp) }
        have HBe := Lib.hid (HBd.out.trans (hbe.mono (by omega)))
        have fv := HOe.out.frozenAt (xn * 3)
        clear hbe y0 y1 y2 qd rd fd vd HOd HBd
        go_wp2_with fail
        generalize hW : World.setCell _ _ _ = wz
        have hqz : wz.cell? ⟨w.heap.size, 0, none⟩ = some (.slice (some ⟨g, 0, none⟩) n cv) := by { rw [← hW, World.cell?_setCell_other _ _ _ _ (by first | (simp; done) | (simp; omega))]; exact qe }
        have hrz : wz.cell? ⟨w.heap.size + 1, 0, none⟩ = some (.slice none 0 0) := by { rw [← hW, World.cell?_setCell_other _ _ _ _ (by first | (simp; done) | (simp; omega))]; exact re }
        have hfz : wz.frozen? ⟨w.heap.size + 1, 0, none⟩ = false := by { rw [← hW]; clear hW; go_simp }
        have hgz : g < wz.heap.size := by { rw [← hW]; clear hW; simp; omega }
        have hBz := Lib.hid (show Below w.heap.size w wz by { rw [← hW]; have := HBe.out; (repeat' (first | (with_reducible exact Below.refl _ _) | (with_reducible assumption) | (with_reducible refine Below.drewN ?_ _) | (with_reducible refine Below.alloc ?_ ?_ _) | (with_reducible refine Below.drew ?_) | (with_reducible refine Below.setCell ?_ ?_ _) | (with_reducible refine Below.step (by assumption) ?_ ?_) | (with_reducible exact And.left (by assumption)) | go_size)) })
        have hOz := (World.ownsRow.stored HOe.out (xn * 3) (.int .i64 (p1 + z))).1
        rw [hW] at hOz
        rw [show (xn * 3) = xn * 3 + 0 from rfl, HS.out, show ((0 : Nat) : Int) = (0 : Int) from rfl, ← HT.out] at hOz
        have HOz := Lib.hid hOz
        clear hW hOz
        go_roundw
        case rel => exact ⟨k + 1, by go_num, by omega, HOz, hqz, hrz, hfz, hgz, hBz⟩
        case measure => simp [intOf]; omega
      · skip
        have hv := hO.out.cellAt (xn * 3 + 1) (by omega)
        rw [ecells_get e3_len HP.out 1 (by omega)] at hv
        have hv' : wr.cell? ⟨g, xn * 3 + 1, none⟩ = some (.int .i64 p2) := hv
        have ww : wrap64 (p2 + z) = p2 + z := by unfold wrap64; omega
        have HS := Lib.hid (set_modify (z := z) (y := 1) (v := p2 + z) HP.out (by simp))
        clear hv
        go_wp2_with fail
        generalize hW : World.alloc _ _ = wd
        have hbd' : Below wr.heap.size wr wd := by rw [← hW]; (repeat' (first | (with_reducible exact Below.refl _ _) | (with_reducible assumption) | (with_reducible refine Below.drewN ?_ _) | (with_reducible refine Below.alloc ?_ ?_ _) | (with_reducible refine Below.drew ?_) | (with_reducible refine Below.setCell ?_ ?_ _) | (with_reducible refine Below.step (by assumption) ?_ ?_) | (with_reducible exact And.left (by assumption)) | go_size))
        have y0 : wd.cell? ⟨wr.heap.size, 0, none⟩ = some (.int .i64 xn) := by { rw [← hW]; clear hW; go_simp }
        have y1 : wd.cell? ⟨wr.heap.size, 1, none⟩ = some (.int .i64 1) := by { rw [← hW]; clear hW; go_simp }
        have y2 : wd.cell? ⟨wr.heap.size, 2, none⟩ = some (.int .i64 z) := by { rw [← hW]; clear hW; go_simp }
        have ly : wr.heap.size < wd.heap.size := by { rw [← hW]; clear hW; simp }
        have qd : wd.cell? ⟨w.heap.size, 0, none⟩ = some (.slice (some ⟨g, 0, none⟩) n cv) := by rw [cellB hbd' _ _ lw]; exact hq
        have rd : wd.cell? ⟨w.heap.size + 1, 0, none⟩ = some (.slice none 0 0) := by rw [cellB hbd' _ _ lw1]; exact hr
        have fd : wd.frozen? ⟨w.heap.size + 1, 0, none⟩ = false := by rw [frozenB hbd' _ _ lw1]; exact hf
        have vd : wd.cell? ⟨g, xn * 3 + 1, none⟩ = some (.int .i64 p2) := by rw [cellB hbd' _ _ hgl]; exact hv'
        have HOd := Lib.hid (owns_below hO.out hbd' (fun q hq => (hO.out.lt q hq).2))
        have HBd := Lib.hid (hB.out.trans (hbd'.mono (by omega)))
        have lwd : w.heap.size < wd.heap.size := by omega
        have lgd : g < wd.heap.size := by omega
        have lw1d : w.heap.size + 1 < wd.heap.size := by omega
        clear hW hbd' hv' hq hr hf hO hB c0 c1 c2
        refine later_of_eq 13 (by kernel_rfl) (by kernel_rfl) ?_; simp only [List.take_succ_cons, List.take_zero, List.drop_succ_cons, List.drop_zero]; repeat go_big_quiet_step (with_reducible exact calls_later (numbers_any _ _ _))
        refine wpQuiet_nil ?_; intro we hbe
        have HOe := Lib.hid (owns_below HOd.out hbe (fun q hq => (HOd.out.lt q hq).2))
        have hze := hbe.size
        have qe : we.cell? ⟨w.heap.size, 0, none⟩ = some (.slice (some ⟨g, 0, none⟩) n cv) := by { rw [cellB hbe _ _ (by first | (simp; done) | (simp; omega) | omega)]; all_goals (first | assumption | go_simp) }; have re : we.cell? ⟨w.heap.size + 1, 0, none⟩ = some (.slice none 0 0) := by { rw [cellB hbe _ _ (by first | (simp; done) | (simp; omega) | omega)]; all_goals (first | assumption | go_simp) }; have fe : we.frozen? ⟨w.heap.size + 1, 0, none⟩ = false := by { rw [frozenB hbe _ _ (by first | (simp; done) | (simp; omega) | omega)]; all_goals (first | assumption | go_simp) }; have ve : we.cell? ⟨g, xn * 3 + 1, none⟩ = some (.int .i64 p2) := by { rw [cellB hbe _ _ (by first | (simp; done) | (simp; omega) | omega)]; all_goals (first | assumption | go_simp) }
        have HBe := Lib.hid (HBd.out.trans (hbe.mono (by omega)))
        have fv := HOe.out.frozenAt (xn * 3 + 1)
        clear hbe y0 y1 y2 qd rd fd vd HOd HBd
        go_wp2_with fail
        generalize hW : World.setCell _ _ _ = wz
        have hqz : wz.cell? ⟨w.heap.size, 0, none⟩ = some (.slice (some ⟨g, 0, none⟩) n cv) := by { rw [← hW, World.cell?_setCell_other _ _ _ _ (by first | (simp; done) | (simp; omega))]; exact qe }
        have hrz : wz.cell? ⟨w.heap.size + 1, 0, none⟩ = some (.slice none 0 0) := by { rw [← hW, World.cell?_setCell_other _ _ _ _ (by first | (simp; done) | (simp; omega))]; exact re }
        have hfz : wz.frozen? ⟨w.heap.size + 1, 0, none⟩ = false := by { rw [← hW]; clear hW; go_simp }
        have hgz : g < wz.heap.size := by { rw [← hW]; clear hW; simp; omega }
        have hBz := Lib.hid (show Below w.heap.size w wz by { rw [← hW]; have := HBe.out; (repeat' (first | (with_reducible exact Below.refl _ _) | (with_reducible assumption) | (with_reducible refine Below.drewN ?_ _) | (with_reducible refine Below.alloc ?_ ?_ _) | (with_reducible refine Below.drew ?_) | (with_reducible refine Below.setCell ?_ ?_ _) | (with_reducible refine Below.step (by assumption) ?_ ?_) | (with_reducible exact And.left (by assumption)) | go_size)) })
        have hOz := (World.ownsRow.stored HOe.out (xn * 3 + 1) (.int .i64 (p2 + z))).1
        rw [hW] at hOz
        rw [show (xn * 3 + 1) = xn * 3 + 1 from rfl, HS.out, show ((1 : Nat) : Int) = (1 : Int) from rfl, ← HT.out] at hOz
        have HOz := Lib.hid hOz
        clear hW hOz
        go_roundw
        case rel => exact ⟨k + 1, by go_num, by omega, HOz, hqz, hrz, hfz, hgz, hBz⟩
        case measure => simp [intOf]; omega
      · skip
        have hv := hO.out.cellAt (xn * 3 + 2) (by omega)
        rw [ecells_get e3_len HP.out 2 (by omega)] at hv
        have hv' : wr.cell? ⟨g, xn * 3 + 2, none⟩ = some (.int .i64 p3) := hv
        have ww : wrap64 (p3 + z) = p3 + z := by unfold wrap64; omega
        have HS := Lib.hid (set_modify (z := z) (y := 2) (v := p3 + z) HP.out (by simp))
        clear hv
        go_wp2_with fail
        generalize hW : World.alloc _ _ = wd
        have hbd' : Below wr.heap.size wr wd := by rw [← hW]; (repeat' (first | (with_reducible exact Below.refl _ _) | (with_reducible assumption) | (with_reducible refine Below.drewN ?_ _) | (with_reducible refine Below.alloc ?_ ?_ _) | (with_reducible refine Below.drew ?_) | (with_reducible refine Below.setCell ?_ ?_ _) | (with_reducible refine Below.step (by assumption) ?_ ?_) | (with_reducible exact And.left (by assumption)) | go_size))
        have y0 : wd.cell? ⟨wr.heap.size, 0, none⟩ = some (.int .i64 xn) := by { rw [← hW]; clear hW; go_simp }
        have y1 : wd.cell? ⟨wr.heap.size, 1, none⟩ = some (.int .i64 2) := by { rw [← hW]; clear hW; go_simp }
        have y2 : wd.cell? ⟨wr.heap.size, 2, none⟩ = some (.int .i64 z) := by { rw [← hW]; clear hW; go_simp }
        have ly : wr.heap.size < wd.heap.size := by { rw [← hW]; clear hW; simp }
        have qd : wd.cell? ⟨w.heap.size, 0, none⟩ = some (.slice (some ⟨g, 0, none⟩) n cv) := by rw [cellB hbd' _ _ lw]; exact hq
        have rd : wd.cell? ⟨w.heap.size + 1, 0, none⟩ = some (.slice none 0 0) := by rw [cellB hbd' _ _ lw1]; exact hr
        have fd : wd.frozen? ⟨w.heap.size + 1, 0, none⟩ = false := by rw [frozenB hbd' _ _ lw1]; exact hf
        have vd : wd.cell? ⟨g, xn * 3 + 2, none⟩ = some (.int .i64 p3) := by rw [cellB hbd' _ _ hgl]; exact hv'
        have HOd := Lib.hid (owns_below hO.out hbd' (fun q hq => (hO.out.lt q hq).2))
        have HBd := Lib.hid (hB.out.trans (hbd'.mono (by omega)))
        have lwd : w.heap.size < wd.heap.size := by omega
        have lgd : g < wd.heap.size := by omega
        have lw1d : w.heap.size + 1 < wd.heap.size := by omega
        clear hW hbd' hv' hq hr hf hO hB c0 c1 c2
        refine later_of_eq 13 (by kernel_rfl) (by kernel_rfl) ?_; simp only [List.take_succ_cons, List.take_zero, List.drop_succ_cons, List.drop_zero]; repeat go_big_quiet_step (with_reducible exact calls_later (numbers_any _ _ _))
        refine wpQuiet_nil ?_; intro we hbe
        have HOe := Lib.hid (owns_below HOd.out hbe (fun q hq => (HOd.out.lt q hq).2))
        have hze := hbe.size
        have qe : we.cell? ⟨w.heap.size, 0, none⟩ = some (.slice (some ⟨g, 0, none⟩) n cv) := by { rw [cellB hbe _ _ (by first | (simp; done) | (simp; omega) | omega)]; all_goals (first | assumption | go_simp) }; have re : we.cell? ⟨w.heap.size + 1, 0, none⟩ = some (.slice none 0 0) := by { rw [cellB hbe _ _ (by first | (simp; done) | (simp; omega) | omega)]; all_goals (first | assumption | go_simp) }; have fe : we.frozen? ⟨w.heap.size + 1, 0, none⟩ = false := by { rw [frozenB hbe _ _ (by first | (simp; done) | (simp; omega) | omega)]; all_goals (first | assumption | go_simp) }; have ve : we.cell? ⟨g, xn * 3 + 2, none⟩ = some (.int .i64 p3) := by { rw [cellB hbe _ _ (by first | (simp; done) | (simp; omega) | omega)]; all_goals (first | assumption | go_simp) }
        have HBe := Lib.hid (HBd.out.trans (hbe.mono (by omega)))
        have fv := HOe.out.frozenAt (xn * 3 + 2)
        clear hbe y0 y1 y2 qd rd fd vd HOd HBd
        go_wp2_with fail
        generalize hW : World.setCell _ _ _ = wz
        have hqz : wz.cell? ⟨w.heap.size, 0, none⟩ = some (.slice (some ⟨g, 0, none⟩) n cv) := by { rw [← hW, World.cell?_setCell_other _ _ _ _ (by first | (simp; done) | (simp; omega))]; exact qe }
        have hrz : wz.cell? ⟨w.heap.size + 1, 0, none⟩ = some (.slice none 0 0) := by { rw [← hW, World.cell?_setCell_other _ _ _ _ (by first | (simp; done) | (simp; omega))]; exact re }
        have hfz : wz.frozen? ⟨w.heap.size + 1, 0, none⟩ = false := by { rw [← hW]; clear hW; go_simp }
        have hgz : g < wz.heap.size := by { rw [← hW]; clear hW; simp; omega }
        have hBz := Lib.hid (show Below w.heap.size w wz by { rw [← hW]; have := HBe.out; (repeat' (first | (with_reducible exact Below.refl _ _) | (with_reducible assumption) | (with_reducible refine Below.drewN ?_ _) | (with_reducible refine Below.alloc ?_ ?_ _) | (with_reducible refine Below.drew ?_) | (with_reducible refine Below.setCell ?_ ?_ _) | (with_reducible refine Below.step (by assumption) ?_ ?_) | (with_reducible exact And.left (by assumption)) | go_size)) })
        have hOz := (World.ownsRow.stored HOe.out (xn * 3 + 2) (.int .i64 (p3 + z))).1
        rw [hW] at hOz
        rw [show (xn * 3 + 2) = xn * 3 + 2 from rfl, HS.out, show ((2 : Nat) : Int) = (2 : Int) from rfl, ← HT.out] at hOz
        have HOz := Lib.hid hOz
        clear hW hOz
        go_roundw
        case rel => exact ⟨k + 1, by go_num, by omega, HOz, hqz, hrz, hfz, hgz, hBz⟩
        case measure => simp [intOf]; omega
    · obtain rfl : m = k := by omega
      have hO' := hO.out
      rw [List.take_of_length_le (by rw [HLN.out]; omega)] at hO'
      have HO := Lib.hid hO'
      have lw : w.heap.size < wr.heap.size := by have := hB.out.size; omega
      have lw1 : w.heap.size + 1 < wr.heap.size := by omega
      clear hO hO'
      go_wp2_with fail
      generalize hW : World.setCell _ _ _ = w9
      have r0 : w9.cell? ⟨w.heap.size + 1, 0, none⟩ = some (.slice (some ⟨g, 0, none⟩) n cv) := by { rw [← hW]; clear hW; go_simp }
      have hb9 : Below w.heap.size w w9 := by { rw [← hW]; have := hB.out; (repeat' (first | (with_reducible exact Below.refl _ _) | (with_reducible assumption) | (with_reducible refine Below.drewN ?_ _) | (with_reducible refine Below.alloc ?_ ?_ _) | (with_reducible refine Below.drew ?_) | (with_reducible refine Below.setCell ?_ ?_ _) | (with_reducible refine Below.step (by assumption) ?_ ?_) | (with_reducible exact And.left (by assumption)) | go_size)) }
      have hO9 : w9.ownsRow w.heap.size 178 3 (.slice (some ⟨g, 0, none⟩) n cv) n (ecells e3 (dfm s l)) := by rw [← hW]; exact owns_mono (ownsRow_setCell_other HO.out (a := ⟨w.heap.size + 1, 0, none⟩) (by simp [Value.ownBlock]; omega) _) (by omega)
      clear hW
      exact bodyPost_ret (v := .agg #[.slice (some ⟨g, 0, none⟩) n cv]) (by simp [results, Tryz.results107, go_sem, r0]) rfl ⟨_, _, rfl, hb9, hO9⟩
end Go.Proofs.YtdklmcicogmeaaaGreat
