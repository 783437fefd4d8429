import Derived.Test.YthkekjgdknnaiaaGreatDDfmd
import Derived.Test.YthkekjgdknnaiaaGreatRNet2
/- The reference of changes: a network that is changed. -/
namespace Go.Proofs.YthkekjgdknnaiaaGreat
open Go.RowKit
set_option linter.unusedVariables false

set_option maxHeartbeats 4000000 in
set_option maxRecDepth 100000 in
theorem rDeformed_any (n c m cm q cq : Nat) (a ap aq : Option Addr) (s l : List T3) (S : List Nat) (w : World) (hs : T3R w a n s) (h0 : 0 < n) (hn : n ≤ 100000) (hsb : ∀ p ∈ s, secB p = true) (hl : T3R w ap m l) (hS : IntsR w aq q (nats S)) (hq : q ≤ 1000) (hlt : ∀ i ∈ S, i < m)
    (hd : ∀ k, k < l.length → (0 ≤ (pAt l k).x ∧ (pAt l k).x < (n : Int)) ∧ (0 ≤ (pAt l k).y ∧ (pAt l k).y ≤ 2) ∧ (-10 ≤ (pAt l k).z ∧ (pAt l k).z ≤ 10)) :
    Calls Tryz.prog 91 #[.agg #[.slice a n c], .slice ap m cm, .slice aq q cq] w fun e' w' => ∃ a' c', e' = .returned (.agg #[.slice a' n c']) ∧ Below w.heap.size w w' ∧ w'.ownsRow w.heap.size 214 3 (.slice a' n c') n (ecells e3 (dfm s (pick l (nats S)))) := by
  have hm := hl.small
  have HL := Lib.hid hl
  have HLN := Lib.hid hl.len
  have HSN := Lib.hid hs.len
  have HSI := Lib.hid hS
  have HSL := Lib.hid (nats_len hS)
  have HLT := Lib.hid hlt
  have HC := Lib.hid (fun (w' : World) (hb : Below w.heap.size w w') => copyNetwork_any s a n c w' (hs.below hb) hn)
  obtain ⟨D, hD⟩ : ∃ D, D = pick l (nats S) := ⟨_, rfl⟩
  have hDl : D.length = q := by rw [hD, pick_len]; exact hS.len
  have HDT := Lib.hid (show ∀ k p, k < q → l[S.getD k 0]? = some p → D.take (k + 1) = D.take k ++ [p] from fun k p hk hp => by
    have hkl : k < (nats S).length := by rw [hS.len]; exact hk
    have hks : k < S.length := by rw [nats_len hS]; exact hk
    have e : (nats S).getD k 0 = ((S.getD k 0 : Nat) : Int) := by unfold nats; simp [List.getD, hks]
    have h1 := pick_take (p := p) (l := l) hkl (by rw [e, Int.toNat_natCast]; exact hp)
    rw [hD]
    unfold pick at h1 ⊢
    rw [← List.map_take, ← List.map_take]
    exact h1)
  have HDZ := Lib.hid (show ∀ k, k < D.length → (-10 ≤ (pAt D k).z ∧ (pAt D k).z ≤ 10) from fun k hk => by
    have hkl : k < (nats S).length := by rw [hD, pick_len] at hk; exact hk
    have hks : k < S.length := by simpa [nats] using hkl
    have e : (nats S).getD k 0 = ((S.getD k 0 : Nat) : Int) := by unfold nats; simp [List.getD, hks]
    rw [hD, pick_at hkl, e, Int.toNat_natCast]
    exact (hd _ (by rw [hl.len]; exact getD_lt hlt hks)).2.2)
  have HBD := Lib.hid (bd_all hsb HDZ.out)
  have HDE := Lib.hid hd
  have HDL := Lib.hid hDl
  rw [← hD]
  clear hs hl hd hsb hS hlt hD hDl
  go_enter Tryz.func91, Tryz.ntmps91
  go_wp2_with fail
  refine (HC.out _ (by (repeat' (first | (with_reducible exact Below.refl _ _) | (with_reducible assumption) | (with_reducible refine Below.drewN ?_ _) | (with_reducible refine Below.alloc ?_ ?_ _) | (with_reducible refine Below.drew ?_) | (with_reducible refine Below.setCell ?_ ?_ _) | (with_reducible refine Below.step (by assumption) ?_ ?_) | (with_reducible exact And.left (by assumption)) | go_size)))).mono ?_
  rintro e5 w5 ⟨av, cv, rfl, hb5, ho5⟩
  have hz5 := hb5.size
  simp only [World.size_alloc] at hz5 ho5
  have r0 : w5.cell? ⟨w.heap.size + 1, 0, none⟩ = some (.slice none 0 0) := by { rw [cellB hb5 _ _ (by first | (simp; done) | (simp; omega) | omega)]; all_goals (first | assumption | go_simp) }; have f1 : w5.frozen? ⟨w.heap.size + 1, 0, none⟩ = false := by { rw [frozenB hb5 _ _ (by first | (simp; done) | (simp; omega) | omega)]; all_goals (first | assumption | go_simp) }
  have l1 : w.heap.size + 1 < w5.heap.size := by omega
  have HB5 := Lib.hid (show Below w.heap.size w w5 from Below.trans (by (repeat' (first | (with_reducible exact Below.refl _ _) | (with_reducible assumption) | (with_reducible refine Below.drewN ?_ _) | (with_reducible refine Below.alloc ?_ ?_ _) | (with_reducible refine Below.drew ?_) | (with_reducible refine Below.setCell ?_ ?_ _) | (with_reducible refine Below.step (by assumption) ?_ ?_) | (with_reducible exact And.left (by assumption)) | go_size))) (hb5.mono (by simp; omega)))
  have HO5 := Lib.hid ho5
  clear hb5 ho5 HC
  go_wp2_with fail
  generalize hW : World.alloc _ _ = w6
  have hb6 : Below w5.heap.size w5 w6 := by rw [← hW]; (repeat' (first | (with_reducible exact Below.refl _ _) | (with_reducible assumption) | (with_reducible refine Below.drewN ?_ _) | (with_reducible refine Below.alloc ?_ ?_ _) | (with_reducible refine Below.drew ?_) | (with_reducible refine Below.setCell ?_ ?_ _) | (with_reducible refine Below.step (by assumption) ?_ ?_) | (with_reducible exact And.left (by assumption)) | go_size))
  have q6 : w6.cell? ⟨w5.heap.size, 0, none⟩ = some (.slice av n cv) := by { rw [← hW]; clear hW; go_simp }
  have z6 : w5.heap.size < w6.heap.size := by { rw [← hW]; clear hW; simp }
  have r6 : w6.cell? ⟨w.heap.size + 1, 0, none⟩ = some (.slice none 0 0) := by { rw [cellB hb6 _ _ (by first | (simp; done) | (simp; omega) | omega)]; all_goals (first | assumption | go_simp) }; have f6 : w6.frozen? ⟨w.heap.size + 1, 0, none⟩ = false := by { rw [frozenB hb6 _ _ (by first | (simp; done) | (simp; omega) | omega)]; all_goals (first | assumption | go_simp) }
  obtain ⟨g, hg, hgb, rfl⟩ : ∃ g, w.heap.size + 2 ≤ g ∧ g < w5.heap.size ∧ av = some ⟨g, 0, none⟩ := by
    rcases HO5.out.2 with ⟨h0', _⟩ | ⟨g, cap, cur, hv, hbase, hb, _, _, _, _⟩
    · simp at h0'; omega
    · cases hv; exact ⟨g, by omega, (Array.getElem?_eq_some_iff.1 hb).1, rfl⟩
  have HO6 := Lib.hid (owns_below HO5.out hb6 (fun z hz => (HO5.out.lt z hz).2))
  have HB6 := Lib.hid (HB5.out.trans (hb6.mono HB5.out.size))
  obtain ⟨X7, hX7⟩ : ∃ X, X = w5.heap.size := ⟨_, rfl⟩
  rw [← hX7] at q6 z6 hgb ⊢
  have g7 : g < X7 := hgb
  have w7 : w.heap.size + 1 < X7 := by omega
  clear hW hb6 r0 f1 l1 HB5 HO5 hgb hz5 hX7
  go_wp2_with fail
  go_loopw [8] (fun i wr => ∃ k : Nat, i = .int .i64 k ∧ k ≤ q ∧ Hid (wr.ownsRow (w.heap.size + 1 + 1) 214 3 (.slice (some ⟨g, 0, none⟩) n cv) n (ecells e3 (dfm s (D.take k)))) ∧ wr.cell? ⟨X7, 0, none⟩ = some (.slice (some ⟨g, 0, none⟩) n cv) ∧ wr.cell? ⟨w.heap.size + 1, 0, none⟩ = some (.slice none 0 0) ∧ wr.frozen? ⟨w.heap.size + 1, 0, none⟩ = false ∧ g < wr.heap.size ∧ X7 < wr.heap.size ∧ Hid (Below w.heap.size w wr)) (fun i _ => q - (intOf i).toNat)
  case atStart => exact ⟨0, rfl, Nat.zero_le _, HO6, q6, r6, f6, (HO6.out.lt g rfl).2, z6, HB6⟩
  case round =>
    obtain ⟨k, rfl, hk, hO, hq7, hr, hf, hgl, l7, hB⟩ := hrel
    have i0 : (0 : Int) ≤ (k : Int) := by omega
    have lw1 : w.heap.size + 1 < wr.heap.size := by omega
    rcases Nat.lt_or_ge k q with hlt | hge
    · have i1 : (k : Int) < (q : Int) := by omega
      obtain ⟨bs, os, rfl, hbs, hcx⟩ := nats_at (HSI.out.below hB.out) hlt
      have him : S.getD k 0 < m := getD_lt HLT.out (by rw [HSL.out]; exact hlt)
      obtain ⟨b0, o0, rfl, hb0, hc0⟩ := (HL.out.below hB.out).addr (by omega)
      obtain ⟨⟨x, y, z⟩, hx⟩ := ER.get HL.out him
      obtain ⟨c0, c1, c2⟩ := hc0 _ _ hx
      have hD := HDE.out (S.getD k 0) (by rw [HLN.out]; exact him)
      rw [pAt_get3 hx] at hD
      have HT := Lib.hid (show dfm s (D.take (k + 1)) = (dfm s (D.take k)).modify x.toNat (bump y z) by rw [HDT.out k _ hlt hx, dfm_snoc])
      have hbd := HBD.out k (by rw [HDL.out]; omega)
      generalize S.getD k 0 = i at *
      simp only at c0 c1 c2 hD
      obtain ⟨hx0, hy0, hz0⟩ := hD
      obtain ⟨xn, rfl⟩ : ∃ y : Nat, x = y := ⟨x.toNat, by omega⟩
      rw [Int.toNat_natCast] at HT
      have ii0 : (0 : Int) ≤ (i : Int) := by omega
      have ii1 : (i : Int) < (m : Int) := by omega
      have x0 : (0 : Int) ≤ (xn : Int) := by omega
      have x1 : (xn : Int) < (n : Int) := by omega
      have hsl : (dfm s (D.take k)).length = n := by rw [dfm_len]; exact HSN.out
      obtain ⟨⟨p1, p2, p3⟩, hp⟩ : ∃ p, (dfm s (D.take k))[xn]? = some p := ⟨_, List.getElem?_eq_getElem (by omega)⟩
      have hpb := hbd _ (List.mem_of_getElem? hp)
      unfold Bd at hpb
      simp only at hpb
      have HP := Lib.hid hp
      have hel : (ecells e3 (dfm s (D.take k))).length = n * 3 := by rw [ecells_len e3_len, hsl]
      clear hc0 hx hbd hp hsl him
      rcases (show y = 0 ∨ y = 1 ∨ y = 2 by omega) with rfl | rfl | rfl
      · skip
        have hv := hO.out.cellAt (xn * 3 + 0) (by omega)
        rw [ecells_get e3_len HP.out 0 (by omega)] at hv
        have hv' : wr.cell? ⟨g, xn * 3, none⟩ = some (.int .i64 p1) := hv
        have ww : IntKind.i64.wrap (p1 + z) = p1 + z := by rw [IntKind.wrap_i64]; omega
        have HS := Lib.hid (set_modify (z := z) (y := 0) (v := p1 + z) HP.out (by simp))
        clear hv
        go_wp2_with fail
        generalize hW : World.alloc _ _ = wd
        have hbd' : Below wr.heap.size wr wd := by rw [← hW]; (repeat' (first | (with_reducible exact Below.refl _ _) | (with_reducible assumption) | (with_reducible refine Below.drewN ?_ _) | (with_reducible refine Below.alloc ?_ ?_ _) | (with_reducible refine Below.drew ?_) | (with_reducible refine Below.setCell ?_ ?_ _) | (with_reducible refine Below.step (by assumption) ?_ ?_) | (with_reducible exact And.left (by assumption)) | go_size))
        have y0 : wd.cell? ⟨wr.heap.size, 0, none⟩ = some (.int .i64 xn) := by { rw [← hW]; clear hW; go_simp }
        have y1 : wd.cell? ⟨wr.heap.size, 1, none⟩ = some (.int .i64 0) := by { rw [← hW]; clear hW; go_simp }
        have y2 : wd.cell? ⟨wr.heap.size, 2, none⟩ = some (.int .i64 z) := by { rw [← hW]; clear hW; go_simp }
        have ly : wr.heap.size < wd.heap.size := by { rw [← hW]; clear hW; simp }
        have qd : wd.cell? ⟨X7, 0, none⟩ = some (.slice (some ⟨g, 0, none⟩) n cv) := by rw [cellB hbd' _ _ l7]; exact hq7
        have rd : wd.cell? ⟨w.heap.size + 1, 0, none⟩ = some (.slice none 0 0) := by rw [cellB hbd' _ _ lw1]; exact hr
        have fd : wd.frozen? ⟨w.heap.size + 1, 0, none⟩ = false := by rw [frozenB hbd' _ _ lw1]; exact hf
        have vd : wd.cell? ⟨g, xn * 3, none⟩ = some (.int .i64 p1) := by rw [cellB hbd' _ _ hgl]; exact hv'
        have HOd := Lib.hid (owns_below hO.out hbd' (fun q hq => (hO.out.lt q hq).2))
        have HBd := Lib.hid (hB.out.trans (hbd'.mono (by omega)))
        have l7d : X7 < wd.heap.size := by omega
        have lgd : g < wd.heap.size := by omega
        have lw1d : w.heap.size + 1 < wd.heap.size := by omega
        have fv := HOd.out.frozenAt (xn * 3)
        clear hW hbd' hv' hq7 hr hf hO hB c0 c1 c2 hcx
        refine drew_of_eq 14 (by kernel_rfl) (by kernel_rfl) ?_; simp only [List.take_succ_cons, List.take_zero, List.drop_succ_cons, List.drop_zero]; repeat go_big_quiet_step (fail)
        refine wpQuiet_nil ?_; intro m7
        go_wp2_with fail
        generalize hW : World.setCell _ _ _ = wz
        have hqz : wz.cell? ⟨X7, 0, none⟩ = some (.slice (some ⟨g, 0, none⟩) n cv) := by { rw [← hW, World.cell?_setCell_other _ _ _ _ (by first | (simp; done) | (simp; omega))]; first | exact qd | simpa using qd }
        have hrz : wz.cell? ⟨w.heap.size + 1, 0, none⟩ = some (.slice none 0 0) := by { rw [← hW, World.cell?_setCell_other _ _ _ _ (by first | (simp; done) | (simp; omega))]; first | exact rd | simpa using rd }
        have hfz : wz.frozen? ⟨w.heap.size + 1, 0, none⟩ = false := by { rw [← hW]; clear hW; go_simp }
        have hgz : g < wz.heap.size := by { rw [← hW]; clear hW; simp; omega }
        have h7z : X7 < wz.heap.size := by { rw [← hW]; clear hW; simp; omega }
        have hBz := Lib.hid (show Below w.heap.size w wz by { rw [← hW]; have := HBd.out; (repeat' (first | (with_reducible exact Below.refl _ _) | (with_reducible assumption) | (with_reducible refine Below.drewN ?_ _) | (with_reducible refine Below.alloc ?_ ?_ _) | (with_reducible refine Below.drew ?_) | (with_reducible refine Below.setCell ?_ ?_ _) | (with_reducible refine Below.step (by assumption) ?_ ?_) | (with_reducible exact And.left (by assumption)) | go_size)) })
        have hOz := (World.ownsRow.stored (owns_drewN HOd.out m7) (xn * 3) (.int .i64 (p1 + z))).1
        rw [hW] at hOz
        rw [show (xn * 3) = xn * 3 + 0 from rfl, HS.out, show ((0 : Nat) : Int) = (0 : Int) from rfl, ← HT.out] at hOz
        have HOz := Lib.hid hOz
        clear hW hOz
        go_roundw
        case rel => exact ⟨k + 1, by go_num, by omega, HOz, hqz, hrz, hfz, hgz, h7z, hBz⟩
        case measure => simp [intOf]; omega
      · skip
        have hv := hO.out.cellAt (xn * 3 + 1) (by omega)
        rw [ecells_get e3_len HP.out 1 (by omega)] at hv
        have hv' : wr.cell? ⟨g, xn * 3 + 1, none⟩ = some (.int .i64 p2) := hv
        have ww : IntKind.i64.wrap (p2 + z) = p2 + z := by rw [IntKind.wrap_i64]; omega
        have HS := Lib.hid (set_modify (z := z) (y := 1) (v := p2 + z) HP.out (by simp))
        clear hv
        go_wp2_with fail
        generalize hW : World.alloc _ _ = wd
        have hbd' : Below wr.heap.size wr wd := by rw [← hW]; (repeat' (first | (with_reducible exact Below.refl _ _) | (with_reducible assumption) | (with_reducible refine Below.drewN ?_ _) | (with_reducible refine Below.alloc ?_ ?_ _) | (with_reducible refine Below.drew ?_) | (with_reducible refine Below.setCell ?_ ?_ _) | (with_reducible refine Below.step (by assumption) ?_ ?_) | (with_reducible exact And.left (by assumption)) | go_size))
        have y0 : wd.cell? ⟨wr.heap.size, 0, none⟩ = some (.int .i64 xn) := by { rw [← hW]; clear hW; go_simp }
        have y1 : wd.cell? ⟨wr.heap.size, 1, none⟩ = some (.int .i64 1) := by { rw [← hW]; clear hW; go_simp }
        have y2 : wd.cell? ⟨wr.heap.size, 2, none⟩ = some (.int .i64 z) := by { rw [← hW]; clear hW; go_simp }
        have ly : wr.heap.size < wd.heap.size := by { rw [← hW]; clear hW; simp }
        have qd : wd.cell? ⟨X7, 0, none⟩ = some (.slice (some ⟨g, 0, none⟩) n cv) := by rw [cellB hbd' _ _ l7]; exact hq7
        have rd : wd.cell? ⟨w.heap.size + 1, 0, none⟩ = some (.slice none 0 0) := by rw [cellB hbd' _ _ lw1]; exact hr
        have fd : wd.frozen? ⟨w.heap.size + 1, 0, none⟩ = false := by rw [frozenB hbd' _ _ lw1]; exact hf
        have vd : wd.cell? ⟨g, xn * 3 + 1, none⟩ = some (.int .i64 p2) := by rw [cellB hbd' _ _ hgl]; exact hv'
        have HOd := Lib.hid (owns_below hO.out hbd' (fun q hq => (hO.out.lt q hq).2))
        have HBd := Lib.hid (hB.out.trans (hbd'.mono (by omega)))
        have l7d : X7 < wd.heap.size := by omega
        have lgd : g < wd.heap.size := by omega
        have lw1d : w.heap.size + 1 < wd.heap.size := by omega
        have fv := HOd.out.frozenAt (xn * 3 + 1)
        clear hW hbd' hv' hq7 hr hf hO hB c0 c1 c2 hcx
        refine drew_of_eq 14 (by kernel_rfl) (by kernel_rfl) ?_; simp only [List.take_succ_cons, List.take_zero, List.drop_succ_cons, List.drop_zero]; repeat go_big_quiet_step (fail)
        refine wpQuiet_nil ?_; intro m7
        go_wp2_with fail
        generalize hW : World.setCell _ _ _ = wz
        have hqz : wz.cell? ⟨X7, 0, none⟩ = some (.slice (some ⟨g, 0, none⟩) n cv) := by { rw [← hW, World.cell?_setCell_other _ _ _ _ (by first | (simp; done) | (simp; omega))]; first | exact qd | simpa using qd }
        have hrz : wz.cell? ⟨w.heap.size + 1, 0, none⟩ = some (.slice none 0 0) := by { rw [← hW, World.cell?_setCell_other _ _ _ _ (by first | (simp; done) | (simp; omega))]; first | exact rd | simpa using rd }
        have hfz : wz.frozen? ⟨w.heap.size + 1, 0, none⟩ = false := by { rw [← hW]; clear hW; go_simp }
        have hgz : g < wz.heap.size := by { rw [← hW]; clear hW; simp; omega }
        have h7z : X7 < wz.heap.size := by { rw [← hW]; clear hW; simp; omega }
        have hBz := Lib.hid (show Below w.heap.size w wz by { rw [← hW]; have := HBd.out; (repeat' (first | (with_reducible exact Below.refl _ _) | (with_reducible assumption) | (with_reducible refine Below.drewN ?_ _) | (with_reducible refine Below.alloc ?_ ?_ _) | (with_reducible refine Below.drew ?_) | (with_reducible refine Below.setCell ?_ ?_ _) | (with_reducible refine Below.step (by assumption) ?_ ?_) | (with_reducible exact And.left (by assumption)) | go_size)) })
        have hOz := (World.ownsRow.stored (owns_drewN HOd.out m7) (xn * 3 + 1) (.int .i64 (p2 + z))).1
        rw [hW] at hOz
        rw [show (xn * 3 + 1) = xn * 3 + 1 from rfl, HS.out, show ((1 : Nat) : Int) = (1 : Int) from rfl, ← HT.out] at hOz
        have HOz := Lib.hid hOz
        clear hW hOz
        go_roundw
        case rel => exact ⟨k + 1, by go_num, by omega, HOz, hqz, hrz, hfz, hgz, h7z, hBz⟩
        case measure => simp [intOf]; omega
      · skip
        have hv := hO.out.cellAt (xn * 3 + 2) (by omega)
        rw [ecells_get e3_len HP.out 2 (by omega)] at hv
        have hv' : wr.cell? ⟨g, xn * 3 + 2, none⟩ = some (.int .i64 p3) := hv
        have ww : IntKind.i64.wrap (p3 + z) = p3 + z := by rw [IntKind.wrap_i64]; omega
        have HS := Lib.hid (set_modify (z := z) (y := 2) (v := p3 + z) HP.out (by simp))
        clear hv
        go_wp2_with fail
        generalize hW : World.alloc _ _ = wd
        have hbd' : Below wr.heap.size wr wd := by rw [← hW]; (repeat' (first | (with_reducible exact Below.refl _ _) | (with_reducible assumption) | (with_reducible refine Below.drewN ?_ _) | (with_reducible refine Below.alloc ?_ ?_ _) | (with_reducible refine Below.drew ?_) | (with_reducible refine Below.setCell ?_ ?_ _) | (with_reducible refine Below.step (by assumption) ?_ ?_) | (with_reducible exact And.left (by assumption)) | go_size))
        have y0 : wd.cell? ⟨wr.heap.size, 0, none⟩ = some (.int .i64 xn) := by { rw [← hW]; clear hW; go_simp }
        have y1 : wd.cell? ⟨wr.heap.size, 1, none⟩ = some (.int .i64 2) := by { rw [← hW]; clear hW; go_simp }
        have y2 : wd.cell? ⟨wr.heap.size, 2, none⟩ = some (.int .i64 z) := by { rw [← hW]; clear hW; go_simp }
        have ly : wr.heap.size < wd.heap.size := by { rw [← hW]; clear hW; simp }
        have qd : wd.cell? ⟨X7, 0, none⟩ = some (.slice (some ⟨g, 0, none⟩) n cv) := by rw [cellB hbd' _ _ l7]; exact hq7
        have rd : wd.cell? ⟨w.heap.size + 1, 0, none⟩ = some (.slice none 0 0) := by rw [cellB hbd' _ _ lw1]; exact hr
        have fd : wd.frozen? ⟨w.heap.size + 1, 0, none⟩ = false := by rw [frozenB hbd' _ _ lw1]; exact hf
        have vd : wd.cell? ⟨g, xn * 3 + 2, none⟩ = some (.int .i64 p3) := by rw [cellB hbd' _ _ hgl]; exact hv'
        have HOd := Lib.hid (owns_below hO.out hbd' (fun q hq => (hO.out.lt q hq).2))
        have HBd := Lib.hid (hB.out.trans (hbd'.mono (by omega)))
        have l7d : X7 < wd.heap.size := by omega
        have lgd : g < wd.heap.size := by omega
        have lw1d : w.heap.size + 1 < wd.heap.size := by omega
        have fv := HOd.out.frozenAt (xn * 3 + 2)
        clear hW hbd' hv' hq7 hr hf hO hB c0 c1 c2 hcx
        refine drew_of_eq 14 (by kernel_rfl) (by kernel_rfl) ?_; simp only [List.take_succ_cons, List.take_zero, List.drop_succ_cons, List.drop_zero]; repeat go_big_quiet_step (fail)
        refine wpQuiet_nil ?_; intro m7
        go_wp2_with fail
        generalize hW : World.setCell _ _ _ = wz
        have hqz : wz.cell? ⟨X7, 0, none⟩ = some (.slice (some ⟨g, 0, none⟩) n cv) := by { rw [← hW, World.cell?_setCell_other _ _ _ _ (by first | (simp; done) | (simp; omega))]; first | exact qd | simpa using qd }
        have hrz : wz.cell? ⟨w.heap.size + 1, 0, none⟩ = some (.slice none 0 0) := by { rw [← hW, World.cell?_setCell_other _ _ _ _ (by first | (simp; done) | (simp; omega))]; first | exact rd | simpa using rd }
        have hfz : wz.frozen? ⟨w.heap.size + 1, 0, none⟩ = false := by { rw [← hW]; clear hW; go_simp }
        have hgz : g < wz.heap.size := by { rw [← hW]; clear hW; simp; omega }
        have h7z : X7 < wz.heap.size := by { rw [← hW]; clear hW; simp; omega }
        have hBz := Lib.hid (show Below w.heap.size w wz by { rw [← hW]; have := HBd.out; (repeat' (first | (with_reducible exact Below.refl _ _) | (with_reducible assumption) | (with_reducible refine Below.drewN ?_ _) | (with_reducible refine Below.alloc ?_ ?_ _) | (with_reducible refine Below.drew ?_) | (with_reducible refine Below.setCell ?_ ?_ _) | (with_reducible refine Below.step (by assumption) ?_ ?_) | (with_reducible exact And.left (by assumption)) | go_size)) })
        have hOz := (World.ownsRow.stored (owns_drewN HOd.out m7) (xn * 3 + 2) (.int .i64 (p3 + z))).1
        rw [hW] at hOz
        rw [show (xn * 3 + 2) = xn * 3 + 2 from rfl, HS.out, show ((2 : Nat) : Int) = (2 : Int) from rfl, ← HT.out] at hOz
        have HOz := Lib.hid hOz
        clear hW hOz
        go_roundw
        case rel => exact ⟨k + 1, by go_num, by omega, HOz, hqz, hrz, hfz, hgz, h7z, hBz⟩
        case measure => simp [intOf]; omega
    · obtain rfl : k = q := by omega
      have hO' := hO.out
      rw [List.take_of_length_le (by rw [HDL.out]; exact Nat.le_refl _)] at hO'
      have HO := Lib.hid hO'
      clear hO hO'
      go_wp2_with fail
      generalize hW : World.setCell _ _ _ = wz
      have rz : wz.cell? ⟨w.heap.size + 1, 0, none⟩ = some (.slice (some ⟨g, 0, none⟩) n cv) := by { rw [← hW]; clear hW; go_simp }
      have hbz : Below w.heap.size w wz := by { rw [← hW]; have := hB.out; (repeat' (first | (with_reducible exact Below.refl _ _) | (with_reducible assumption) | (with_reducible refine Below.drewN ?_ _) | (with_reducible refine Below.alloc ?_ ?_ _) | (with_reducible refine Below.drew ?_) | (with_reducible refine Below.setCell ?_ ?_ _) | (with_reducible refine Below.step (by assumption) ?_ ?_) | (with_reducible exact And.left (by assumption)) | go_size)) }
      have hoz : wz.ownsRow (w.heap.size + 1 + 1) 214 3 (.slice (some ⟨g, 0, none⟩) n cv) n (ecells e3 (dfm s D)) := by { rw [← hW]; have := HO.out; (repeat' (first | (with_reducible assumption) | ((with_reducible refine owns_lit ?_ ?_ ?_ ?_) <;> first | (simp; done) | (simp; omega) | omega) | (with_reducible refine World.ownsRow.alloc ?_ _) | (with_reducible refine World.ownsRow.drew ?_) | (with_reducible refine owns_drewN ?_ _) | (with_reducible refine ownsRow_setCell_below ?_ ?_ _) | (simp; done) | (simp; omega) | omega)) }
      clear hW
      exact bodyPost_ret (v := .agg #[.slice (some ⟨g, 0, none⟩) n cv]) (by simp [results, Tryz.results91, go_sem, rz]) rfl ⟨_, _, rfl, hbz, owns_mono hoz (by omega)⟩
end Go.Proofs.YthkekjgdknnaiaaGreat
