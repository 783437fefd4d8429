import Derived.Test.YtbjgklifmillgaaGreatRWst
/- The envelope, of the reference. -/
namespace Go.Proofs.YtbjgklifmillgaaGreat
open Go.RowKit
set_option linter.unusedVariables false

set_option maxHeartbeats 4000000 in
set_option maxRecDepth 100000 in
theorem renvelope_any (s e t : List Int) (a a1 a2 : Option Addr) (n c c1 c2 L : Nat) (g : Bool) (w : World) (hs : IntsR w a n s) (he : IntsR w a1 n e) (ht : IntsR w a2 n t) (h : Lad s e g n L) (bt : ∀ x ∈ t, 1 ≤ x ∧ x ≤ 1000) :
    Calls Tryz.prog 13 #[.agg #[.slice a n c, .slice a1 n c1, .slice a2 n c2, .bool g]] w fun e' w' => Below w.heap.size w w' ∧
      ((envBad s e t n L g = true ∧ e' = .returned (.tuple #[.slice none 0 0, .bool false])) ∨
       (envBad s e t n L g = false ∧ ∃ a' c', e' = .returned (.tuple #[.slice a' (n + 1) c', .bool true]) ∧ PairsR w' a' (n + 1) (envL s e t n L g))) := by
  have hn0 := h.n0
  have hn6 := h.n6
  have htl := ht.len
  have HIN := Lib.hid (fun (v : World) (hb : Below w.heap.size w v) => rinitial_any s e a a1 a2 n c c1 n c2 L g v (hs.below hb) (he.below hb) h)
  have HRF := Lib.hid (fun (v : World) (hb : Below w.heap.size w v) => rfinal_any t a a1 a2 n c n c1 n c2 g v (ht.below hb) hn0 hn6 bt)
  have HFS := Lib.hid h.fqs
  have HSV := Lib.hid (fun j (hj : j ≤ n) => h.szv hj)
  have HFP := Lib.hid (fun j (hj : j < n + 1) => fin_parts g bt (show n ≤ t.length by omega) hn0 hn6 hj)
  have HEF := Lib.hid (h.env_fqs bt (show n ≤ t.length by omega))
  have HEB := Lib.hid (h.env_bad (t := t))
  clear hs he ht h bt htl
  go_enter Tryz.func13, Tryz.ntmps13
  go_wp2_with fail
  refine (HIN.out _ (by (repeat' (first | (with_reducible exact Below.refl _ _) | (with_reducible assumption) | (with_reducible refine Below.drewN ?_ _) | (with_reducible refine Below.alloc ?_ ?_ _) | (with_reducible refine Below.drew ?_) | (with_reducible refine Below.setCell ?_ ?_ _) | (with_reducible refine Below.step (by assumption) ?_ ?_) | (with_reducible exact And.left (by assumption)) | go_size)))).mono ?_
  rintro e5 w5 ⟨aq, cq, rfl, hb5, ys, hsq, heq⟩
  have hz5 := hb5.size
  simp only [World.size_alloc] at hz5
  have q05 : w5.cell? ⟨w.heap.size, 0, none⟩ = some (.slice a n c) := by { rw [cellB hb5 _ _ (by first | (simp; done) | (simp; omega) | omega)]; all_goals (first | assumption | go_simp) }; have q15 : w5.cell? ⟨w.heap.size, 1, none⟩ = some (.slice a1 n c1) := by { rw [cellB hb5 _ _ (by first | (simp; done) | (simp; omega) | omega)]; all_goals (first | assumption | go_simp) }; have q25 : w5.cell? ⟨w.heap.size, 2, none⟩ = some (.slice a2 n c2) := by { rw [cellB hb5 _ _ (by first | (simp; done) | (simp; omega) | omega)]; all_goals (first | assumption | go_simp) }; have q35 : w5.cell? ⟨w.heap.size, 3, none⟩ = some (.bool g) := by { rw [cellB hb5 _ _ (by first | (simp; done) | (simp; omega) | omega)]; all_goals (first | assumption | go_simp) }; have l5 : w.heap.size < w5.heap.size := by { omega }
  have HB5 := Lib.hid (show Below w.heap.size w w5 by (repeat' (first | (with_reducible exact Below.refl _ _) | (with_reducible assumption) | (with_reducible refine Below.drewN ?_ _) | (with_reducible refine Below.alloc ?_ ?_ _) | (with_reducible refine Below.drew ?_) | (with_reducible refine Below.setCell ?_ ?_ _) | (with_reducible refine Below.step (by assumption) ?_ ?_) | (with_reducible exact And.left (by assumption)) | go_size)))
  have HE := Lib.hid (show ∀ k, k < n + 1 → EntL (fun b => b < w5.heap.size) w5 ys k (vq s e L k) from heq)
  have HFR := Lib.hid (rfracs_any _ ys aq (n + 1) cq w5 hsq.1 heq (by omega))
  rw [HFS.out] at HFR
  obtain ⟨bq, oq, rfl, _, lbq, hcq⟩ := hsq.addr (by omega)
  have HCQ := Lib.hid hcq
  clear hb5 hz5 HIN heq hsq hcq HFS
  go_wp2_with fail
  refine HFR.out.mono ?_
  rintro e6 w6 ⟨hb6, hp⟩
  have HB56 := Lib.hid hb6
  have hz6 := hb6.size
  have q06 : w6.cell? ⟨w.heap.size, 0, none⟩ = some (.slice a n c) := by { rw [cellB hb6 _ _ (by first | (simp; done) | (simp; omega) | omega)]; all_goals (first | assumption | go_simp) }; have q16 : w6.cell? ⟨w.heap.size, 1, none⟩ = some (.slice a1 n c1) := by { rw [cellB hb6 _ _ (by first | (simp; done) | (simp; omega) | omega)]; all_goals (first | assumption | go_simp) }; have q26 : w6.cell? ⟨w.heap.size, 2, none⟩ = some (.slice a2 n c2) := by { rw [cellB hb6 _ _ (by first | (simp; done) | (simp; omega) | omega)]; all_goals (first | assumption | go_simp) }; have q36 : w6.cell? ⟨w.heap.size, 3, none⟩ = some (.bool g) := by { rw [cellB hb6 _ _ (by first | (simp; done) | (simp; omega) | omega)]; all_goals (first | assumption | go_simp) }; have l6 : w.heap.size < w6.heap.size := by { omega }
  have HB6 := Lib.hid (HB5.out.trans (hb6.mono HB5.out.size))
  clear hb6 HFR q05 q15 q25 q35 l5
  rcases hp with ⟨hbad, rfl⟩ | ⟨hgood, a8, c8, rfl, _⟩
  · have HW := Lib.hid (show envBad s e t n L g = true by unfold envBad; rw [hbad]; rfl)
    clear hbad
    go_wp2
    go_ret2
    exact ⟨HB6.out, .inl ⟨HW.out, rfl⟩⟩
  · have HEB := Lib.hid (HEB.out hgood)
    clear hgood
    go_wp2_with fail
    refine (HRF.out _ HB6.out).mono ?_
    rintro e7 w7 ⟨av, cv, rfl, hb7, hv⟩
    have HV := Lib.hid hv
    have HB57 := Lib.hid (HB56.out.trans (hb7.mono HB56.out.size))
    have HB7 := Lib.hid (HB6.out.trans (hb7.mono HB6.out.size))
    have hz7 := hb7.size
    clear hb7 hv HRF q06 q16 q26 q36 l6 HB56 HB6
    go_wp2_with fail
    go_loopw [8, 9] (fun o i wr => ∃ (k : Nat) (ao : Option Addr) (co : Nat), i = .int .i64 k ∧ o = .slice ao k co ∧ k ≤ n + 1 ∧ Hid (∃ zs, Outs w7.heap.size wr (.slice ao k co) k (envQ s e t n L g) zs) ∧ Hid (Below w7.heap.size w7 wr)) (fun _ i _ => n + 1 - (intOf i).toNat)
    case atStart => exact ⟨0, none, 0, rfl, rfl, Nat.zero_le _, Lib.hid ⟨_, Outs.zero _ _ _⟩, Lib.hid (Below.refl _ _)⟩
    case round =>
      obtain ⟨k, ao, co, rfl, rfl, hk, hO, hB⟩ := hrel
      obtain ⟨w8, rfl⟩ : ∃ w', w' = wr := ⟨wr, rfl⟩
      have hz8 := hB.out.size
      obtain ⟨zs, ho⟩ := hO.out
      have HO8 := Lib.hid ho
      have HB8 := Lib.hid hB.out
      clear hO hB ho
      rcases Nat.lt_or_ge k (n + 1) with hlt | hge
      · obtain ⟨bv, ov, rfl, lbv, hcv⟩ := HV.out.addr (by omega)
        have cv0 := (hcv k hlt).1
        have cv1 := (hcv k hlt).2
        rw [← cellB HB8.out _ _ lbv] at cv0 cv1
        have hfp := HFP.out k hlt
        have hsv := HSV.out k (by omega)
        change _ = some (Value.int .i64 (gp (finO t n g) k).1) at cv0
        change _ = some (Value.int .i64 (gp (finO t n g) k).2) at cv1
        have HEQ := Lib.hid (show envQ s e t n L g k = Rat.divInt (gp (finO t n g) k).1 (gp (finO t n g) k).2 + absR (Rat.divInt (gp (finO t n g) k).1 (gp (finO t n g) k).2 - vq s e L k) from rfl)
        generalize gp (finO t n g) k = V at *
        obtain ⟨vn, vd⟩ := V
        simp only at cv0 cv1 hfp HEQ
        have HSZ := Lib.hid (show Sz 2 (Rat.divInt vn vd) ∧ Sz 2 (vq s e L k) from ⟨sz_parts (by omega) (by omega), hsv⟩)
        have HSD := Lib.hid (show Sz 5 (Rat.divInt vn vd - vq s e L k) from sz_sub (K := 2) (M := 2) HSZ.out.1 HSZ.out.2)
        obtain ⟨sU, xU, nU, dU, tU, yU, mU, pU, gU0, gU1, gU2, gU3, hrU⟩ := SlN.at HCQ.out (HE.out k hlt)
        have HB58 := Lib.hid (HB57.out.trans (HB8.out.mono HB57.out.size))
        have hz58 := HB58.out.size
        rw [← cellB HB58.out _ _ lbq] at gU0 gU1 gU2 gU3
        have HU := Lib.hid ((hrU.below HB58.out).mono (p' := fun b => b < w8.heap.size) (fun b hb => by omega))
        have lv8 : bv < w8.heap.size := by omega
        have lq8 : bq < w8.heap.size := by omega
        have b1 := hfp.1
        have b2 := hfp.2
        have k0 : (0 : Int) ≤ (k : Int) := by omega
        have k1 : (k : Int) < (n : Int) + 1 := by omega
        clear hcv hfp hsv hrU
        go_wp2_with fail
        go_cut [10] from 28 to 37 (fun v10 wx => ∃ (X : Nat) (s9 t9 : Int) (a9 b9 : Option Addr) (n9 c9 m9 d9 : Nat), v10 = .pointer (some ⟨X, 0, none⟩) ∧ Hid (wx.heap[X]? = some (.cells #[.int .i64 s9, .slice a9 n9 c9, .int .i64 t9, .slice b9 m9 d9] 101)) ∧ w8.heap.size ≤ X ∧ Hid (RatioR (fun b => b ≠ X ∧ b < wx.heap.size) wx (.agg #[.int .i64 s9, .slice a9 n9 c9, .int .i64 t9, .slice b9 m9 d9]) (Rat.divInt vn vd - vq s e L k)) ∧ Hid (Below w8.heap.size w8 wx))
        case first =>
          have HN := Lib.hid (Below.refl w8.heap.size w8).drew
          refine wp_region_laterT (B := w8.heap.size) (.head 0 (.head 1 (.head 2 (.head 3 (.head 5 (.head 6 (.head 7 (.head 8 (.two 4 (.two 9 (.one 10 (.one 11 .done)) 10 (.one 9 (.one 11 .done))) 10 (.one 4 (.one 9 (.one 11 .done)))))))))))) (by kernel_rfl) (by kernel_rfl) ?_
          repeat (refine tree_head rfl ?_; (show wpQuiet _ _ _ _ (_ :: _) _; go_big_quiet_step (fail)); refine wpQuiet_nil ?_)
          refine tree_two rfl rfl ?_ ?_
          · go_wp2_with fail
            refine (ratioFrom_any vn vd _ (by omega) (by omega) (by omega) (by omega) (by omega)).mono ?_
            rintro ex wx1 ⟨vF, rfl, hbx, hF⟩
            have HF := Lib.hid hF.here
            obtain ⟨sF, aF, nF, cF, tF, bF, mF, dF, rfl, _, _⟩ := hF
            have hzx := hbx.size
            have HN := Lib.hid (HN.out.trans (hbx.mono HN.out.size))
            clear hbx
            go_wp2_with fail
            refine tailL_mk HN.out ?_
            repeat (refine tree_head rfl ?_; (show wpQuiet _ _ _ _ (_ :: _) _; go_big_quiet_step (fail)); refine wpQuiet_nil ?_)
            refine tree_two rfl rfl ?_ ?_
            · go_wp2_with fail
              refine (ratioSub_any (fun b => b < wx1.heap.size) _ _ (Rat.divInt vn vd) (vq s e L k) 2 2 _ (HF.out.here.mono (fun b hb => hb.2)) ((HU.out.below HN.out).mono (fun b hb => by have := HN.out.size; (try simp only [World.size_drew] at *); omega)) (fun b hb => hb) HSZ.out.1 HSZ.out.2 (by omega)).mono ?_
              rintro ex wx2 ⟨vS, rfl, hbx, hS⟩
              have HS := Lib.hid hS.here
              obtain ⟨sS, aS, nS, cS, tS, bS, mS, dS, rfl, _, _⟩ := hS
              have hzx := hbx.size
              have HN := Lib.hid (HN.out.trans (hbx.mono HN.out.size))
              have HF := Lib.hid (HF.out.below hbx)
              clear hbx
              go_wp2_with fail
              refine tailL_mk HN.out ?_
              repeat (refine tree_head rfl ?_; (show wpQuiet _ _ _ _ (_ :: _) _; go_big_quiet_step (fail)); refine wpQuiet_nil ?_)
              refine tree_one rfl ?_
              go_wp2_with fail
              obtain ⟨X9, hX9⟩ : ∃ X, X = wx2.heap.size := ⟨_, rfl⟩
              have hNX : w8.heap.size ≤ X9 := by rw [hX9]; exact HN.out.size
              have hx9 : (wx2.alloc (Obj.cells #[.int .i64 0, .slice none 0 0, .int .i64 0, .slice none 0 0] 101)).heap[X9]? = some (.cells #[.int .i64 0, .slice none 0 0, .int .i64 0, .slice none 0 0] 101) := by rw [hX9]; exact heap_alloc_new _ _
              have l9 : X9 < (wx2.alloc (Obj.cells #[.int .i64 0, .slice none 0 0, .int .i64 0, .slice none 0 0] 101)).heap.size := by rw [hX9]; simp
              have hs9 : (wx2.alloc (Obj.cells #[.int .i64 0, .slice none 0 0, .int .i64 0, .slice none 0 0] 101)).heap.size = wx2.heap.size + 1 := by simp
              have hbx : Below wx2.heap.size wx2 (wx2.alloc (Obj.cells #[.int .i64 0, .slice none 0 0, .int .i64 0, .slice none 0 0] 101)) := by (repeat' (first | (with_reducible exact Below.refl _ _) | (with_reducible assumption) | (with_reducible refine Below.drewN ?_ _) | (with_reducible refine Below.alloc ?_ ?_ _) | (with_reducible refine Below.drew ?_) | (with_reducible refine Below.setCell ?_ ?_ _) | (with_reducible refine Below.step (by assumption) ?_ ?_) | (with_reducible exact And.left (by assumption)) | go_size))
              try simp only [← hX9]
              generalize (wx2.alloc (Obj.cells #[.int .i64 0, .slice none 0 0, .int .i64 0, .slice none 0 0] 101)) = wx3 at *
              have HX9 := Lib.hid (And.intro hX9 hs9)
              have HN := Lib.hid (HN.out.trans (hbx.mono HN.out.size))
              have HF := Lib.hid (HF.out.below hbx)
              have HS := Lib.hid (HS.out.below hbx)
              clear hbx hX9 hs9
              refine tailL_mk HN.out ?_
              repeat (refine tree_head rfl ?_; (show wpQuiet _ _ _ _ (_ :: _) _; go_big_quiet_step (fail)); refine wpQuiet_nil ?_)
              refine tree_one rfl ?_
              have c90 := cell_of_row _ _ 0 _ _ _ hx9
              have f90 := frozen_of_row _ _ 0 _ _ hx9
              have c91 := cell_of_row _ _ 1 _ _ _ hx9
              have f91 := frozen_of_row _ _ 1 _ _ hx9
              have c92 := cell_of_row _ _ 2 _ _ _ hx9
              have f92 := frozen_of_row _ _ 2 _ _ hx9
              have c93 := cell_of_row _ _ 3 _ _ _ hx9
              have f93 := frozen_of_row _ _ 3 _ _ hx9
              simp only [List.getElem?_toArray, List.getElem?_cons_zero, List.getElem?_cons_succ] at c90 c91 c92 c93
              go_wp2_with fail
              have HN := Lib.hid (show Below w8.heap.size w8 ((((wx3.setCell ⟨X9, 0, none⟩ (.int .i64 sS)).setCell ⟨X9, 1, none⟩ (.slice aS nS cS)).setCell ⟨X9, 2, none⟩ (.int .i64 tS)).setCell ⟨X9, 3, none⟩ (.slice bS mS dS)) from Below.setCell (Below.setCell (Below.setCell (Below.setCell (HN.out) hNX _) hNX _) hNX _) hNX _)
              have hx9 : ((((wx3.setCell ⟨X9, 0, none⟩ (.int .i64 sS)).setCell ⟨X9, 1, none⟩ (.slice aS nS cS)).setCell ⟨X9, 2, none⟩ (.int .i64 tS)).setCell ⟨X9, 3, none⟩ (.slice bS mS dS)).heap[X9]? = some (.cells #[.int .i64 sS, .slice aS nS cS, .int .i64 tS, .slice bS mS dS] 101) := blk_set (blk_set (blk_set (blk_set (hx9) 0 (.int .i64 sS)) 1 (.slice aS nS cS)) 2 (.int .i64 tS)) 3 (.slice bS mS dS)
              refine tailL_mk HN.out ?_
              repeat (refine tree_head rfl ?_; (show wpQuiet _ _ _ _ (_ :: _) _; go_big_quiet_step (fail)); refine wpQuiet_nil ?_)
              refine tree_done ?_
              go_wp2_with fail
              have HRX := Lib.hid (show RatioR (fun b => b ≠ X9 ∧ b < ((((wx3.setCell ⟨X9, 0, none⟩ (.int .i64 sS)).setCell ⟨X9, 1, none⟩ (.slice aS nS cS)).setCell ⟨X9, 2, none⟩ (.int .i64 tS)).setCell ⟨X9, 3, none⟩ (.slice bS mS dS)).heap.size) ((((wx3.setCell ⟨X9, 0, none⟩ (.int .i64 sS)).setCell ⟨X9, 1, none⟩ (.slice aS nS cS)).setCell ⟨X9, 2, none⟩ (.int .i64 tS)).setCell ⟨X9, 3, none⟩ (.slice bS mS dS)) (.agg #[.int .i64 sS, .slice aS nS cS, .int .i64 tS, .slice bS mS dS]) (Rat.divInt vn vd - vq s e L k) from
                RatioR.mono (p := fun b => b ≠ X9 ∧ b < ((((wx3.setCell ⟨X9, 0, none⟩ (.int .i64 sS)).setCell ⟨X9, 1, none⟩ (.slice aS nS cS)).setCell ⟨X9, 2, none⟩ (.int .i64 tS)).setCell ⟨X9, 3, none⟩ (.slice bS mS dS)).heap.size) (RatioR.kept (w := wx3) (HS.out.here.mono (fun b hb => by
                  obtain ⟨hX9, hsz9⟩ := HX9.out
                  obtain ⟨⟨h1, h2⟩, h3⟩ := hb
                  refine ⟨?_, by simpa using h3⟩
                  (try simp only [World.size_drew] at *)
                  omega)) (by simp) (fun b hb => by rw [Go.Deep.blk_setCell_other _ _ _ _ (by simpa using hb.1), Go.Deep.blk_setCell_other _ _ _ _ (by simpa using hb.1), Go.Deep.blk_setCell_other _ _ _ _ (by simpa using hb.1), Go.Deep.blk_setCell_other _ _ _ _ (by simpa using hb.1)])) (fun b hb => hb))
              go_meet
              case rel => exact ⟨X9, sS, tS, aS, bS, nS, cS, mS, dS, rfl, Lib.hid hx9, hNX, HRX, HN⟩
            · go_wp2_with fail
              obtain ⟨X9, hX9⟩ : ∃ X, X = wx1.heap.size := ⟨_, rfl⟩
              have hNX : w8.heap.size ≤ X9 := by rw [hX9]; exact HN.out.size
              have hx9 : (wx1.alloc (Obj.cells #[.int .i64 0, .slice none 0 0, .int .i64 0, .slice none 0 0] 101)).heap[X9]? = some (.cells #[.int .i64 0, .slice none 0 0, .int .i64 0, .slice none 0 0] 101) := by rw [hX9]; exact heap_alloc_new _ _
              have l9 : X9 < (wx1.alloc (Obj.cells #[.int .i64 0, .slice none 0 0, .int .i64 0, .slice none 0 0] 101)).heap.size := by rw [hX9]; simp
              have hs9 : (wx1.alloc (Obj.cells #[.int .i64 0, .slice none 0 0, .int .i64 0, .slice none 0 0] 101)).heap.size = wx1.heap.size + 1 := by simp
              have hbx : Below wx1.heap.size wx1 (wx1.alloc (Obj.cells #[.int .i64 0, .slice none 0 0, .int .i64 0, .slice none 0 0] 101)) := by (repeat' (first | (with_reducible exact Below.refl _ _) | (with_reducible assumption) | (with_reducible refine Below.drewN ?_ _) | (with_reducible refine Below.alloc ?_ ?_ _) | (with_reducible refine Below.drew ?_) | (with_reducible refine Below.setCell ?_ ?_ _) | (with_reducible refine Below.step (by assumption) ?_ ?_) | (with_reducible exact And.left (by assumption)) | go_size))
              try simp only [← hX9]
              generalize (wx1.alloc (Obj.cells #[.int .i64 0, .slice none 0 0, .int .i64 0, .slice none 0 0] 101)) = wx5 at *
              have HX9 := Lib.hid (And.intro hX9 hs9)
              have HN := Lib.hid (HN.out.trans (hbx.mono HN.out.size))
              have HF := Lib.hid (HF.out.below hbx)
              clear hbx hX9 hs9
              refine tailL_mk HN.out ?_
              repeat (refine tree_head rfl ?_; (show wpQuiet _ _ _ _ (_ :: _) _; go_big_quiet_step (fail)); refine wpQuiet_nil ?_)
              refine tree_one rfl ?_
              go_wp2_with fail
              refine (ratioSub_any (fun b => b < wx5.heap.size) _ _ (Rat.divInt vn vd) (vq s e L k) 2 2 _ (HF.out.here.mono (fun b hb => hb.2)) ((HU.out.below HN.out).mono (fun b hb => by have := HN.out.size; (try simp only [World.size_drew] at *); omega)) (fun b hb => hb) HSZ.out.1 HSZ.out.2 (by omega)).mono ?_
              rintro ex wx6 ⟨vS, rfl, hbx, hS⟩
              have HS := Lib.hid hS.here
              obtain ⟨sS, aS, nS, cS, tS, bS, mS, dS, rfl, _, _⟩ := hS
              have hzx := hbx.size
              have HN := Lib.hid (HN.out.trans (hbx.mono HN.out.size))
              have HF := Lib.hid (HF.out.below hbx)
              have hx9 := (hbx.block X9 l9).trans hx9
              have l9 := Nat.lt_of_lt_of_le l9 hbx.size
              clear hbx
              go_wp2_with fail
              refine tailL_mk HN.out ?_
              repeat (refine tree_head rfl ?_; (show wpQuiet _ _ _ _ (_ :: _) _; go_big_quiet_step (fail)); refine wpQuiet_nil ?_)
              refine tree_one rfl ?_
              have c90 := cell_of_row _ _ 0 _ _ _ hx9
              have f90 := frozen_of_row _ _ 0 _ _ hx9
              have c91 := cell_of_row _ _ 1 _ _ _ hx9
              have f91 := frozen_of_row _ _ 1 _ _ hx9
              have c92 := cell_of_row _ _ 2 _ _ _ hx9
              have f92 := frozen_of_row _ _ 2 _ _ hx9
              have c93 := cell_of_row _ _ 3 _ _ _ hx9
              have f93 := frozen_of_row _ _ 3 _ _ hx9
              simp only [List.getElem?_toArray, List.getElem?_cons_zero, List.getElem?_cons_succ] at c90 c91 c92 c93
              go_wp2_with fail
              have HN := Lib.hid (show Below w8.heap.size w8 ((((wx6.setCell ⟨X9, 0, none⟩ (.int .i64 sS)).setCell ⟨X9, 1, none⟩ (.slice aS nS cS)).setCell ⟨X9, 2, none⟩ (.int .i64 tS)).setCell ⟨X9, 3, none⟩ (.slice bS mS dS)) from Below.setCell (Below.setCell (Below.setCell (Below.setCell (HN.out) hNX _) hNX _) hNX _) hNX _)
              have hx9 : ((((wx6.setCell ⟨X9, 0, none⟩ (.int .i64 sS)).setCell ⟨X9, 1, none⟩ (.slice aS nS cS)).setCell ⟨X9, 2, none⟩ (.int .i64 tS)).setCell ⟨X9, 3, none⟩ (.slice bS mS dS)).heap[X9]? = some (.cells #[.int .i64 sS, .slice aS nS cS, .int .i64 tS, .slice bS mS dS] 101) := blk_set (blk_set (blk_set (blk_set (hx9) 0 (.int .i64 sS)) 1 (.slice aS nS cS)) 2 (.int .i64 tS)) 3 (.slice bS mS dS)
              refine tailL_mk HN.out ?_
              repeat (refine tree_head rfl ?_; (show wpQuiet _ _ _ _ (_ :: _) _; go_big_quiet_step (fail)); refine wpQuiet_nil ?_)
              refine tree_done ?_
              go_wp2_with fail
              have HRX := Lib.hid (show RatioR (fun b => b ≠ X9 ∧ b < ((((wx6.setCell ⟨X9, 0, none⟩ (.int .i64 sS)).setCell ⟨X9, 1, none⟩ (.slice aS nS cS)).setCell ⟨X9, 2, none⟩ (.int .i64 tS)).setCell ⟨X9, 3, none⟩ (.slice bS mS dS)).heap.size) ((((wx6.setCell ⟨X9, 0, none⟩ (.int .i64 sS)).setCell ⟨X9, 1, none⟩ (.slice aS nS cS)).setCell ⟨X9, 2, none⟩ (.int .i64 tS)).setCell ⟨X9, 3, none⟩ (.slice bS mS dS)) (.agg #[.int .i64 sS, .slice aS nS cS, .int .i64 tS, .slice bS mS dS]) (Rat.divInt vn vd - vq s e L k) from
                RatioR.mono (p := fun b => b ≠ X9 ∧ b < ((((wx6.setCell ⟨X9, 0, none⟩ (.int .i64 sS)).setCell ⟨X9, 1, none⟩ (.slice aS nS cS)).setCell ⟨X9, 2, none⟩ (.int .i64 tS)).setCell ⟨X9, 3, none⟩ (.slice bS mS dS)).heap.size) (RatioR.kept (w := wx6) (HS.out.here.mono (fun b hb => by
                  obtain ⟨hX9, hsz9⟩ := HX9.out
                  obtain ⟨⟨h1, h2⟩, h3⟩ := hb
                  refine ⟨?_, by simpa using h3⟩
                  (try simp only [World.size_drew] at *)
                  omega)) (by simp) (fun b hb => by rw [Go.Deep.blk_setCell_other _ _ _ _ (by simpa using hb.1), Go.Deep.blk_setCell_other _ _ _ _ (by simpa using hb.1), Go.Deep.blk_setCell_other _ _ _ _ (by simpa using hb.1), Go.Deep.blk_setCell_other _ _ _ _ (by simpa using hb.1)])) (fun b hb => hb))
              go_meet
              case rel => exact ⟨X9, sS, tS, aS, bS, nS, cS, mS, dS, rfl, Lib.hid hx9, hNX, HRX, HN⟩
          · go_wp2_with fail
            obtain ⟨X9, hX9⟩ : ∃ X, X = w8.heap.size := ⟨_, rfl⟩
            have hNX : w8.heap.size ≤ X9 := by rw [hX9]; exact HN.out.size
            have hx9 : (w8.alloc (Obj.cells #[.int .i64 0, .slice none 0 0, .int .i64 0, .slice none 0 0] 101)).drew.heap[X9]? = some (.cells #[.int .i64 0, .slice none 0 0, .int .i64 0, .slice none 0 0] 101) := by rw [hX9]; exact heap_alloc_new _ _
            have l9 : X9 < (w8.alloc (Obj.cells #[.int .i64 0, .slice none 0 0, .int .i64 0, .slice none 0 0] 101)).drew.heap.size := by rw [hX9]; simp
            have hs9 : (w8.alloc (Obj.cells #[.int .i64 0, .slice none 0 0, .int .i64 0, .slice none 0 0] 101)).drew.heap.size = w8.heap.size + 1 := by simp
            have hbx : Below w8.heap.size w8 (w8.alloc (Obj.cells #[.int .i64 0, .slice none 0 0, .int .i64 0, .slice none 0 0] 101)).drew := by (repeat' (first | (with_reducible exact Below.refl _ _) | (with_reducible assumption) | (with_reducible refine Below.drewN ?_ _) | (with_reducible refine Below.alloc ?_ ?_ _) | (with_reducible refine Below.drew ?_) | (with_reducible refine Below.setCell ?_ ?_ _) | (with_reducible refine Below.step (by assumption) ?_ ?_) | (with_reducible exact And.left (by assumption)) | go_size))
            try simp only [← hX9]
            generalize (w8.alloc (Obj.cells #[.int .i64 0, .slice none 0 0, .int .i64 0, .slice none 0 0] 101)).drew = wx8 at *
            have HX9 := Lib.hid (And.intro hX9 hs9)
            have HN := Lib.hid hbx
            clear hbx hX9 hs9
            refine tailL_mk HN.out ?_
            repeat (refine tree_head rfl ?_; (show wpQuiet _ _ _ _ (_ :: _) _; go_big_quiet_step (fail)); refine wpQuiet_nil ?_)
            refine tree_one rfl ?_
            go_wp2_with fail
            refine (ratioFrom_any vn vd _ (by omega) (by omega) (by omega) (by omega) (by omega)).mono ?_
            rintro ex wx9 ⟨vF, rfl, hbx, hF⟩
            have HF := Lib.hid hF.here
            obtain ⟨sF, aF, nF, cF, tF, bF, mF, dF, rfl, _, _⟩ := hF
            have hzx := hbx.size
            have HN := Lib.hid (HN.out.trans (hbx.mono HN.out.size))
            have hx9 := (hbx.block X9 l9).trans hx9
            have l9 := Nat.lt_of_lt_of_le l9 hbx.size
            clear hbx
            go_wp2_with fail
            refine tailL_mk HN.out ?_
            repeat (refine tree_head rfl ?_; (show wpQuiet _ _ _ _ (_ :: _) _; go_big_quiet_step (fail)); refine wpQuiet_nil ?_)
            refine tree_one rfl ?_
            go_wp2_with fail
            refine (ratioSub_any (fun b => b < wx9.heap.size) _ _ (Rat.divInt vn vd) (vq s e L k) 2 2 _ (HF.out.here.mono (fun b hb => hb.2)) ((HU.out.below HN.out).mono (fun b hb => by have := HN.out.size; (try simp only [World.size_drew] at *); omega)) (fun b hb => hb) HSZ.out.1 HSZ.out.2 (by omega)).mono ?_
            rintro ex wx10 ⟨vS, rfl, hbx, hS⟩
            have HS := Lib.hid hS.here
            obtain ⟨sS, aS, nS, cS, tS, bS, mS, dS, rfl, _, _⟩ := hS
            have hzx := hbx.size
            have HN := Lib.hid (HN.out.trans (hbx.mono HN.out.size))
            have HF := Lib.hid (HF.out.below hbx)
            have hx9 := (hbx.block X9 l9).trans hx9
            have l9 := Nat.lt_of_lt_of_le l9 hbx.size
            clear hbx
            go_wp2_with fail
            refine tailL_mk HN.out ?_
            repeat (refine tree_head rfl ?_; (show wpQuiet _ _ _ _ (_ :: _) _; go_big_quiet_step (fail)); refine wpQuiet_nil ?_)
            refine tree_one rfl ?_
            have c90 := cell_of_row _ _ 0 _ _ _ hx9
            have f90 := frozen_of_row _ _ 0 _ _ hx9
            have c91 := cell_of_row _ _ 1 _ _ _ hx9
            have f91 := frozen_of_row _ _ 1 _ _ hx9
            have c92 := cell_of_row _ _ 2 _ _ _ hx9
            have f92 := frozen_of_row _ _ 2 _ _ hx9
            have c93 := cell_of_row _ _ 3 _ _ _ hx9
            have f93 := frozen_of_row _ _ 3 _ _ hx9
            simp only [List.getElem?_toArray, List.getElem?_cons_zero, List.getElem?_cons_succ] at c90 c91 c92 c93
            go_wp2_with fail
            have HN := Lib.hid (show Below w8.heap.size w8 ((((wx10.setCell ⟨X9, 0, none⟩ (.int .i64 sS)).setCell ⟨X9, 1, none⟩ (.slice aS nS cS)).setCell ⟨X9, 2, none⟩ (.int .i64 tS)).setCell ⟨X9, 3, none⟩ (.slice bS mS dS)) from Below.setCell (Below.setCell (Below.setCell (Below.setCell (HN.out) hNX _) hNX _) hNX _) hNX _)
            have hx9 : ((((wx10.setCell ⟨X9, 0, none⟩ (.int .i64 sS)).setCell ⟨X9, 1, none⟩ (.slice aS nS cS)).setCell ⟨X9, 2, none⟩ (.int .i64 tS)).setCell ⟨X9, 3, none⟩ (.slice bS mS dS)).heap[X9]? = some (.cells #[.int .i64 sS, .slice aS nS cS, .int .i64 tS, .slice bS mS dS] 101) := blk_set (blk_set (blk_set (blk_set (hx9) 0 (.int .i64 sS)) 1 (.slice aS nS cS)) 2 (.int .i64 tS)) 3 (.slice bS mS dS)
            refine tailL_mk HN.out ?_
            repeat (refine tree_head rfl ?_; (show wpQuiet _ _ _ _ (_ :: _) _; go_big_quiet_step (fail)); refine wpQuiet_nil ?_)
            refine tree_done ?_
            go_wp2_with fail
            have HRX := Lib.hid (show RatioR (fun b => b ≠ X9 ∧ b < ((((wx10.setCell ⟨X9, 0, none⟩ (.int .i64 sS)).setCell ⟨X9, 1, none⟩ (.slice aS nS cS)).setCell ⟨X9, 2, none⟩ (.int .i64 tS)).setCell ⟨X9, 3, none⟩ (.slice bS mS dS)).heap.size) ((((wx10.setCell ⟨X9, 0, none⟩ (.int .i64 sS)).setCell ⟨X9, 1, none⟩ (.slice aS nS cS)).setCell ⟨X9, 2, none⟩ (.int .i64 tS)).setCell ⟨X9, 3, none⟩ (.slice bS mS dS)) (.agg #[.int .i64 sS, .slice aS nS cS, .int .i64 tS, .slice bS mS dS]) (Rat.divInt vn vd - vq s e L k) from
              RatioR.mono (p := fun b => b ≠ X9 ∧ b < ((((wx10.setCell ⟨X9, 0, none⟩ (.int .i64 sS)).setCell ⟨X9, 1, none⟩ (.slice aS nS cS)).setCell ⟨X9, 2, none⟩ (.int .i64 tS)).setCell ⟨X9, 3, none⟩ (.slice bS mS dS)).heap.size) (RatioR.kept (w := wx10) (HS.out.here.mono (fun b hb => by
                obtain ⟨hX9, hsz9⟩ := HX9.out
                obtain ⟨⟨h1, h2⟩, h3⟩ := hb
                refine ⟨?_, by simpa using h3⟩
                (try simp only [World.size_drew] at *)
                omega)) (by simp) (fun b hb => by rw [Go.Deep.blk_setCell_other _ _ _ _ (by simpa using hb.1), Go.Deep.blk_setCell_other _ _ _ _ (by simpa using hb.1), Go.Deep.blk_setCell_other _ _ _ _ (by simpa using hb.1), Go.Deep.blk_setCell_other _ _ _ _ (by simpa using hb.1)])) (fun b hb => hb))
            go_meet
            case rel => exact ⟨X9, sS, tS, aS, bS, nS, cS, mS, dS, rfl, Lib.hid hx9, hNX, HRX, HN⟩
        case rest =>
          obtain ⟨w9, rfl⟩ : ∃ w', w' = wc := ⟨wc, rfl⟩
          obtain ⟨X, s9, t9, a9, b9, n9, c9, m9, d9, rfl, HX, lX8, hR, hN⟩ := hcut
          have x0 := blk_cell HX.out (i := 0) rfl
          have x1 := blk_cell HX.out (i := 1) rfl
          have x2 := blk_cell HX.out (i := 2) rfl
          have x3 := blk_cell HX.out (i := 3) rfl
          have f0 := blk_fz HX.out 0
          have f1 := blk_fz HX.out 1
          have f2 := blk_fz HX.out 2
          have f3 := blk_fz HX.out 3
          have lX := blk_lt HX.out
          have hb9 := hN.out
          have hz9 := hb9.size
          have cv0' : w9.cell? ⟨bv, ov + k * 2, none⟩ = some (.int .i64 vn) := by { rw [cellB hb9 _ _ (by first | (simp; done) | (simp; omega) | omega)]; all_goals (first | assumption | go_simp) }; have cv1' : w9.cell? ⟨bv, ov + k * 2 + 1, none⟩ = some (.int .i64 vd) := by { rw [cellB hb9 _ _ (by first | (simp; done) | (simp; omega) | omega)]; all_goals (first | assumption | go_simp) }; have lv9 : bv < w9.heap.size := by { omega }
          have HR9 := Lib.hid hR.out
          have HN9 := Lib.hid hb9
          have HSG := Lib.hid (fun p v w' h => ratioSign_any p v (Rat.divInt vn vd - vq s e L k) w' h)
          obtain ⟨D, hD⟩ : ∃ D, D = Rat.divInt vn vd - vq s e L k := ⟨_, rfl⟩
          rw [← hD] at HSG HEQ HR9 HSD
          obtain ⟨Z, hZ⟩ : ∃ Z, Z = D.num.sign := ⟨_, rfl⟩
          rw [← hZ] at HSG
          have HZ := Lib.hid hZ
          have cv08 := cv0
          have cv18 := cv1
          clear hb9 hN hR cv0 cv1 gU0 gU1 gU2 gU3 HU hD hZ
          go_wp2_with fail
          refine (HSG.out _ _ _ HR9.out).mono ?_
          rintro e10 wa ⟨rfl, hba⟩
          have hza := hba.size
          have cv0 : wa.cell? ⟨bv, ov + k * 2, none⟩ = some (.int .i64 vn) := by { rw [cellB hba _ _ (by first | (simp; done) | (simp; omega) | omega)]; all_goals (first | assumption | go_simp) }; have cv1 : wa.cell? ⟨bv, ov + k * 2 + 1, none⟩ = some (.int .i64 vd) := by { rw [cellB hba _ _ (by first | (simp; done) | (simp; omega) | omega)]; all_goals (first | assumption | go_simp) }; have lva : bv < wa.heap.size := by { omega }
          have HX := Lib.hid (blk_below HX.out hba)
          have HRa := Lib.hid ((HR9.out.below hba).mono (p' := fun b => b ≠ X ∧ b < wa.heap.size) (fun b hb => ⟨hb.1, by omega⟩))
          have HNa := Lib.hid (HN9.out.trans (hba.mono hz9))
          clear hba cv0' cv1' lv9 x0 x1 x2 x3 f0 f1 f2 f3 lX HR9 HN9 HSG
          have x0 := blk_cell HX.out (i := 0) rfl
          have x1 := blk_cell HX.out (i := 1) rfl
          have x2 := blk_cell HX.out (i := 2) rfl
          have x3 := blk_cell HX.out (i := 3) rfl
          have f0 := blk_fz HX.out 0
          have f1 := blk_fz HX.out 1
          have f2 := blk_fz HX.out 2
          have f3 := blk_fz HX.out 3
          have lX := blk_lt HX.out
          go_upto_if 40 with fail
          go_cut [10] from 40 to 43 (fun v10 wx => ∃ (s9 t9 : Int) (a9 b9 : Option Addr) (n9 c9 m9 d9 : Nat), v10 = .pointer (some ⟨X, 0, none⟩) ∧ Hid (wx.heap[X]? = some (.cells #[.int .i64 s9, .slice a9 n9 c9, .int .i64 t9, .slice b9 m9 d9] 101)) ∧ Hid (RatioR (fun b => b ≠ X ∧ b < wx.heap.size) wx (.agg #[.int .i64 s9, .slice a9 n9 c9, .int .i64 t9, .slice b9 m9 d9]) (absR D)) ∧ Hid (Below w8.heap.size w8 wx))
          case first =>
            by_cases hZ0 : Z < 0
            · have HAB := Lib.hid (absR_neg (q := D) (by rw [← HZ.out]; exact hZ0))
              go_wp2_with fail
              refine wp_region_laterY (B := wa.heap.size) [1] [0, 2] [3] (by kernel_rfl) (by kernel_rfl) ?_; simp only [List.filterMap_cons, List.filterMap_nil, List.getElem?_cons_zero, List.getElem?_cons_succ]; repeat (show wpQuiet _ _ _ _ (_ :: _) _; go_big_quiet_step (fail))
              refine wpQuiet_nil ?_
              refine tailY_cons ?_
              go_wp2_with fail
              refine (zero_any _).mono ?_
              rintro e11 wb ⟨vb, rfl, hbb, hrb⟩
              have hNb : Below wa.heap.size wa wb := (Below.refl _ _).drew.trans hbb
              have hzb := hNb.size
              have HRZ := Lib.hid (hrb.here.mono (p' := fun b => b < wb.heap.size) (fun b hb => hb.2))
              have HRb := Lib.hid ((HRa.out.below hNb).mono (p' := fun b => b < wb.heap.size) (fun b hb => by omega))
              have HX := Lib.hid (blk_below HX.out hNb)
              have lXb := blk_lt HX.out
              have HNb := Lib.hid hNb
              obtain ⟨sZ, aZ, nZ, cZ, tZ, bZ, mZ, dZ, rfl, _, _⟩ := hrb
              clear hbb hNb x0 x1 x2 x3 f0 f1 f2 f3 lX
              go_wp2_with fail
              refine tailL_mk HNb.out ?_
              refine tailY_cons ?_
              go_wp2_with fail
              refine (ratioSub_any (fun b => b < wb.heap.size) _ _ 0 D 1 5 wb HRZ.out HRb.out (fun b hb => hb) (by have := sz_int (n := 0) (by omega) (by omega); simpa using this) HSD.out (by omega)).mono ?_
              rintro e12 wd ⟨vd', rfl, hbd, hrd⟩
              have hzd := hbd.size
              have HX := Lib.hid (blk_below HX.out hbd)
              have HRD := Lib.hid (hrd.here.mono (p' := fun b => b ≠ X ∧ b < wd.heap.size) (fun b hb => ⟨by omega, hb.2⟩))
              have HNd := Lib.hid (HNb.out.trans (hbd.mono HNb.out.size))
              obtain ⟨sD, aD, nD, cD, tD, bD, mD, dD, rfl, _, _⟩ := hrd
              clear hbd
              have x0d := blk_cell HX.out (i := 0) rfl
              have x1d := blk_cell HX.out (i := 1) rfl
              have x2d := blk_cell HX.out (i := 2) rfl
              have x3d := blk_cell HX.out (i := 3) rfl
              have f0d := blk_fz HX.out 0
              have f1d := blk_fz HX.out 1
              have f2d := blk_fz HX.out 2
              have f3d := blk_fz HX.out 3
              have lXd := blk_lt HX.out
              go_wp2_with fail
              refine tailL_mk HNd.out ?_
              refine tailY_ends ?_
              refine ends_cons ?_
              go_wp2_with fail
              refine tailZ_end ?_
              refine ends_nil ?_
              have hX9 : ((((wd.setCell ⟨X, 0, none⟩ (.int .i64 sD)).setCell ⟨X, 1, none⟩ (.slice aD nD cD)).setCell ⟨X, 2, none⟩ (.int .i64 tD)).setCell ⟨X, 3, none⟩ (.slice bD mD dD)).heap[X]? = some (.cells #[.int .i64 sD, .slice aD nD cD, .int .i64 tD, .slice bD mD dD] 101) :=
                blk_set (blk_set (blk_set (blk_set HX.out 0 (.int .i64 sD)) 1 (.slice aD nD cD)) 2 (.int .i64 tD)) 3 (.slice bD mD dD)
              have HRX := Lib.hid (show RatioR (fun b => b ≠ X ∧ b < ((((wd.setCell ⟨X, 0, none⟩ (.int .i64 sD)).setCell ⟨X, 1, none⟩ (.slice aD nD cD)).setCell ⟨X, 2, none⟩ (.int .i64 tD)).setCell ⟨X, 3, none⟩ (.slice bD mD dD)).heap.size) ((((wd.setCell ⟨X, 0, none⟩ (.int .i64 sD)).setCell ⟨X, 1, none⟩ (.slice aD nD cD)).setCell ⟨X, 2, none⟩ (.int .i64 tD)).setCell ⟨X, 3, none⟩ (.slice bD mD dD)) (.agg #[.int .i64 sD, .slice aD nD cD, .int .i64 tD, .slice bD mD dD]) (absR D) by
                rw [HAB.out]
                exact RatioR.mono (p := fun b => b ≠ X ∧ b < wd.heap.size) (RatioR.kept (w := wd) HRD.out (by simp) (fun b hb => by rw [Go.Deep.blk_setCell_other _ _ _ _ (by simpa using hb.1), Go.Deep.blk_setCell_other _ _ _ _ (by simpa using hb.1), Go.Deep.blk_setCell_other _ _ _ _ (by simpa using hb.1), Go.Deep.blk_setCell_other _ _ _ _ (by simpa using hb.1)])) (fun b hb => ⟨hb.1, by simpa using hb.2⟩))
              have HNx := Lib.hid (show Below w8.heap.size w8 ((((wd.setCell ⟨X, 0, none⟩ (.int .i64 sD)).setCell ⟨X, 1, none⟩ (.slice aD nD cD)).setCell ⟨X, 2, none⟩ (.int .i64 tD)).setCell ⟨X, 3, none⟩ (.slice bD mD dD)) from
                Below.setCell (Below.setCell (Below.setCell (Below.setCell (HNa.out.trans (HNd.out.mono HNa.out.size)) lX8 _) lX8 _) lX8 _) lX8 _)
              have HX9 := Lib.hid hX9
              clear hX9
              go_wp2_with fail
              go_meet
              case rel => exact ⟨sD, tD, aD, bD, nD, cD, mD, dD, rfl, HX9, HRX, HNx⟩
            · have HAB := Lib.hid (absR_pos (q := D) (by rw [← HZ.out]; exact hZ0))
              have hZ1 : 0 ≤ Z := by omega
              clear hZ0
              go_wp2_with fail
              go_meet
              case rel => exact ⟨s9, t9, a9, b9, n9, c9, m9, d9, rfl, HX, Lib.hid (by rw [HAB.out]; exact HRa.out), HNa⟩
          case rest =>
            obtain ⟨wb, rfl⟩ : ∃ w', w' = wc := ⟨wc, rfl⟩
            clear HRa HX x0 x1 x2 x3 f0 f1 f2 f3 lX HNa cv0 cv1 lva
            obtain ⟨s9, t9, a9, b9, n9, c9, m9, d9, rfl, HX, hR, hN⟩ := hcut
            have hNb := hN.out
            have hzb := hNb.size
            have cv0 : wb.cell? ⟨bv, ov + k * 2, none⟩ = some (.int .i64 vn) := by rw [cellB hNb _ _ lv8]; exact cv08
            have cv1 : wb.cell? ⟨bv, ov + k * 2 + 1, none⟩ = some (.int .i64 vd) := by rw [cellB hNb _ _ lv8]; exact cv18
            have lvb : bv < wb.heap.size := by omega
            have HRb := Lib.hid hR.out
            have HNb := Lib.hid hNb
            have HSA := Lib.hid (sz_absR HSD.out)
            clear hN hNb hR
            have x0 := blk_cell HX.out (i := 0) rfl
            have x1 := blk_cell HX.out (i := 1) rfl
            have x2 := blk_cell HX.out (i := 2) rfl
            have x3 := blk_cell HX.out (i := 3) rfl
            have f0 := blk_fz HX.out 0
            have f1 := blk_fz HX.out 1
            have f2 := blk_fz HX.out 2
            have f3 := blk_fz HX.out 3
            have lX := blk_lt HX.out
            go_wp2_with fail
            refine wp_region_laterY (B := wb.heap.size) [0, 1, 2, 3, 4, 6] [5, 7, 8] [9, 10] (by kernel_rfl) (by kernel_rfl) ?_; simp only [List.filterMap_cons, List.filterMap_nil, List.getElem?_cons_zero, List.getElem?_cons_succ]; repeat (show wpQuiet _ _ _ _ (_ :: _) _; go_big_quiet_step (fail))
            refine wpQuiet_nil ?_
            refine tailY_cons ?_
            go_wp2_with fail
            refine (ratioFrom_any vn vd _ (by omega) (by omega) (by omega) (by omega) (by omega)).mono ?_
            rintro e13 wd ⟨vF, rfl, hbd, hF⟩
            have hNd : Below wb.heap.size wb wd := (Below.refl _ _).drew.trans hbd
            have hzd := hNd.size
            have HF := Lib.hid (hF.here.mono (p' := fun b => b < wd.heap.size) (fun b hb => hb.2))
            have HRd := Lib.hid ((HRb.out.below hNd).mono (p' := fun b => b < wd.heap.size) (fun b hb => by omega))
            have HNd := Lib.hid hNd
            obtain ⟨sF, aF, nF, cF, tF, bF, mF, dF, rfl, _, _⟩ := hF
            clear hbd hNd x0 x1 x2 x3 f0 f1 f2 f3 lX cv0 cv1
            go_wp2_with fail
            refine tailL_mk HNd.out ?_
            refine tailY_cons ?_
            go_wp2_with fail
            refine (ratioAdd_any (fun b => b < wd.heap.size) _ _ (Rat.divInt vn vd) (absR D) 2 7 wd HF.out HRd.out HSZ.out.1 HSA.out (by omega)).mono ?_
            rintro e14 we ⟨vE, rfl, hbe, hrE⟩
            have hze := hbe.size
            have HNe := Lib.hid (HNb.out.trans ((HNd.out.trans (hbe.mono hzd)).mono hzb))
            have HNf := Lib.hid (HNd.out.trans (hbe.mono hzd))
            have HRE := Lib.hid (show RatioR (fun b => w8.heap.size ≤ b) we vE (envQ s e t n L g k) by
              rw [HEQ.out]
              exact hrE.mono (fun b hb => by omega))
            obtain ⟨sE, aE, nE, cE, tE, bE, mE, dE, rfl, _, _⟩ := hrE
            have HO5 := Lib.hid (owns_below HO8.out.own HNe.out (fun q hq => (HO8.out.own.lt q hq).2))
            clear hbe
            go_wp2_with fail
            refine tailL_mk HNf.out ?_
            refine tailY_cons ?_
            go_wp2_with fail
            refine tailL_mk (HNf.out.alloc (Nat.le_trans hzd hze) _) ?_
            refine tailY_ends ?_
            refine ends_cons ?_
            go_wp2_with (at_builtin; refine append_g _ rfl _ _ 94 101 _ 4 64 Tryz.underlying94 infoRatio rfl (by omega) rfl w7.heap.size k we.heap.size (.slice ao k co) zs [.int .i64 sE, .slice aE nE cE, .int .i64 tE, .slice bE mE dE] rfl (HO5.out.alloc _) rfl rfl (fun i u hu => ?_) (fun u hu => ?_) (by omega) (by omega) (by simp; omega) ?_)
            · rcases i with _ | _ | _ | _ | i
              · simp at hu; subst hu; go_simp
              · simp at hu; subst hu; go_simp
              · simp at hu; subst hu; go_simp
              · simp at hu; subst hu; go_simp
              · simp at hu
            · simp at hu; rcases hu with rfl | rfl | rfl | rfl <;> rfl
            intro v7 wz hown7 hg7 hv7 hb7
            obtain ⟨av2, cv2, rfl, _, _⟩ := owns_slice hown7
            have HO7 := Lib.hid (HO8.out.next HNe.out HRE.out ((Below.refl _ _).alloc (Nat.le_refl _) _) hown7 hg7 (by simpa using hv7))
            have HB7' := Lib.hid (show Below w7.heap.size w7 wz from ((HB8.out.trans (HNe.out.mono hz8)).alloc (by omega) _).trans hb7)
            clear hown7 hg7 hv7 hb7
            refine tailZ_end ?_
            refine ends_cons ?_
            go_wp2_with fail
            refine tailZ_end ?_
            refine ends_nil ?_
            go_wp2
            go_roundw
            case rel => exact ⟨k + 1, av2, cv2, by go_num, rfl, by omega, Lib.hid ⟨_, HO7.out⟩, HB7'⟩
            case measure => simp [intOf]; omega
      · obtain rfl : k = n + 1 := by omega
        have HP := Lib.hid (rfracs_any (envQ s e t n L g) zs ao (n + 1) co w8 (SlR.of_owns HO8.out.own) (fun j hj => (HO8.out.ent j hj).mono (fun b hb => hb.2)) (by omega))
        rw [HEF.out, ← HEB.out] at HP
        have HBz := Lib.hid (HB7.out.trans (HB8.out.mono HB7.out.size))
        clear HO8 HV HE HCQ
        go_wp2_with fail
        refine HP.out.mono ?_
        rintro e9 w9 ⟨hb9, hp⟩
        have HBy := Lib.hid (HBz.out.trans (hb9.mono HBz.out.size))
        clear hb9 HP
        rcases hp with ⟨h1, rfl⟩ | ⟨h1, a9, c9, rfl, h2⟩
        · have H1 := Lib.hid h1
          clear h1
          go_wp2
          go_ret2
          exact ⟨HBy.out, .inl ⟨H1.out, rfl⟩⟩
        · have H1 := Lib.hid (And.intro h1 h2)
          clear h1 h2
          go_wp2
          go_ret2
          exact ⟨HBy.out, .inr ⟨H1.out.1, a9, c9, rfl, H1.out.2⟩⟩
end Go.Proofs.YtbjgklifmillgaaGreat
