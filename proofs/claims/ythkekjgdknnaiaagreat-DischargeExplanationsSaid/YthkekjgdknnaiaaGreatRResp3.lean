import Derived.Test.YthkekjgdknnaiaaGreatMDSub
import Derived.Test.YthkekjgdknnaiaaGreatMRGcd
import Derived.Test.YthkekjgdknnaiaaGreatRResp2
/- The reference of responses: frequencies, responses, equality. -/
namespace Go.Proofs.YthkekjgdknnaiaaGreat
open Go.RowKit
set_option linter.unusedVariables false

theorem rIsFrequency_any (n : Int) (w : World) : Calls Tryz.prog 132 #[.int .i64 n] w fun e' w' => e' = .returned (.bool (wi n 0 6)) ∧ w = w' := by
  go_enter Tryz.func132, Tryz.ntmps132
  go_wp2_with (go_at_call 24; refine (bwithin_any _ _ _ _).mono ?_; rintro e w' ⟨rfl, rfl⟩)
  go_ret
  exact ⟨rfl, rfl⟩
theorem freE_cases (l : List Int) : freE l = if 8 < (l.length : Int) then 8 else if l.any (fun x => !wi x 0 6) = true then 2 else 0 := by
  unfold freE
  by_cases h : 8 < (l.length : Int)
  · have : ¬ (l.length : Int) ≤ 8 := by omega
    rw [if_pos h, decide_eq_false this]; rfl
  · have : (l.length : Int) ≤ 8 := by omega
    rw [if_neg h, decide_eq_true this]
    cases l.any (fun x => !wi x 0 6) <;> rfl
set_option maxRecDepth 100000 in
theorem rFrequenciesErr_any (l : List Int) (a : Option Addr) (n c : Nat) (w : World) (hl : IntsR w a n l) : Calls Tryz.prog 69 #[.slice a n c] w fun e' w' => e' = .returned (.int .i64 (freE l)) ∧ Below w.heap.size w w' := by
  have hn := hl.small
  have HL := Lib.hid hl
  have HLN := Lib.hid hl.len
  have hE := freE_cases l
  rw [hl.len] at hE
  obtain ⟨E, hEE⟩ : ∃ E, E = freE l := ⟨_, rfl⟩
  rw [← hEE] at hE ⊢
  clear hl hEE
  by_cases h8 : 8 < (n : Int)
  · rw [if_pos h8] at hE
    subst hE
    go_enter Tryz.func69, Tryz.ntmps69
    go_wp2
    go_ret
    exact ⟨rfl, by (repeat' (first | (with_reducible exact Below.refl _ _) | (with_reducible assumption) | (with_reducible refine Below.drewN ?_ _) | (with_reducible refine Below.alloc ?_ ?_ _) | (with_reducible refine Below.drew ?_) | (with_reducible refine Below.setCell ?_ ?_ _) | (with_reducible refine Below.step (by assumption) ?_ ?_) | (with_reducible exact And.left (by assumption)) | go_size))⟩
  · rw [if_neg h8] at hE
    have HE := Lib.hid hE
    clear hE
    go_enter Tryz.func69, Tryz.ntmps69
    go_wp2_with fail
    go_loopw [3] (fun i wr => ∃ k : Nat, i = .int .i64 k ∧ k ≤ n ∧ Hid ((l.drop k).any (fun x => !wi x 0 6) = l.any (fun x => !wi x 0 6)) ∧ wr = w) (fun i _ => n - (intOf i).toNat)
    case atStart => exact ⟨0, rfl, Nat.zero_le _, Lib.hid rfl, rfl⟩
    case round =>
      obtain ⟨k, rfl, hk, hG, rfl⟩ := hrel
      have i0 : (0 : Int) ≤ (k : Int) := by omega
      rcases Nat.lt_or_ge k n with hlt | hge
      · have i1 : (k : Int) < (n : Int) := by omega
        obtain ⟨b, o, rfl, hb, hc⟩ := HL.out.addr (by omega)
        have p0 := hc k hlt
        have hG' := hG.out
        rw [drop_any (p := fun x => !wi x 0 6) l k (by rw [HLN.out]; exact hlt)] at hG'
        generalize l.getD k 0 = x at *
        have HB1 := Lib.hid (fun w' => rIsFrequency_any x w')
        generalize wi x 0 6 = b1 at *
        have HG := Lib.hid hG'
        clear hc hG hG'
        go_wp2_with fail
        refine (HB1.out _).mono ?_
        rintro e6 w6 ⟨rfl, rfl⟩
        cases b1
        · have hE := HE.out
          rw [← HG.out] at hE
          have hE2 : E = 2 := by rw [hE]; simp
          clear hE
          subst hE2
          clear HE HG
          go_wp2
          go_ret
          exact ⟨rfl, by (repeat' (first | (with_reducible exact Below.refl _ _) | (with_reducible assumption) | (with_reducible refine Below.drewN ?_ _) | (with_reducible refine Below.alloc ?_ ?_ _) | (with_reducible refine Below.drew ?_) | (with_reducible refine Below.setCell ?_ ?_ _) | (with_reducible refine Below.step (by assumption) ?_ ?_) | (with_reducible exact And.left (by assumption)) | go_size))⟩
        have HG2 := Lib.hid (show (l.drop (k + 1)).any (fun x => !wi x 0 6) = l.any (fun x => !wi x 0 6) by rw [← HG.out]; rfl)
        clear HG
        go_wp2
        go_roundw
        case rel => exact ⟨k + 1, by go_num, by omega, HG2, by first | rfl | trivial⟩
        case measure => simp [intOf]; omega
      · obtain rfl : k = n := by omega
        have hE := HE.out
        rw [← hG.out, drop_end l k (by rw [HLN.out]; exact Nat.le_refl _)] at hE
        rw [if_neg (by simp)] at hE
        subst hE
        clear HE hG
        go_wp2
        go_ret
        exact ⟨rfl, by (repeat' (first | (with_reducible exact Below.refl _ _) | (with_reducible assumption) | (with_reducible refine Below.drewN ?_ _) | (with_reducible refine Below.alloc ?_ ?_ _) | (with_reducible refine Below.drew ?_) | (with_reducible refine Below.setCell ?_ ?_ _) | (with_reducible refine Below.step (by assumption) ?_ ?_) | (with_reducible exact And.left (by assumption)) | go_size))⟩
set_option maxHeartbeats 1000000 in
set_option maxRecDepth 100000 in
theorem rResponses_any (l : List T3) (fs : List Int) (a af : Option Addr) (n c m cm : Nat) (w : World) (hl : T3R w a n l) (hfs : IntsR w af m fs) (hn : n ≤ 3) (hs : ∀ p ∈ l, secB p = true) (hf : ∀ f ∈ fs, 0 ≤ f ∧ f ≤ 6) (hm : m ≤ 100) :
    Calls Tryz.prog 93 #[.agg #[.slice a n c], .slice af m cm] w fun e' w' => ∃ a' c', e' = .returned (.slice a' m c') ∧ Below w.heap.size w w' ∧ PairsR w' a' m (fs.map (gPr l)) := by
  have HF := Lib.hid hfs
  have HFN := Lib.hid hfs.len
  have HFB := Lib.hid hf
  have HR := Lib.hid (fun (f : Int) (hf : 0 ≤ f ∧ f ≤ 6) (W : World) (hb : Below w.heap.size w W) => rResponse_any l f a n c W (hl.below hb) hn hs hf)
  obtain ⟨L, hL⟩ : ∃ L, L = fs.map (gPr l) := ⟨_, rfl⟩
  have HLL := Lib.hid (And.intro hL (show L.length = m by rw [hL, List.length_map]; exact hfs.len))
  rw [← hL]
  clear hl hfs hs hf hL
  go_enter Tryz.func93, Tryz.ntmps93
  go_wp2_with fail
  generalize hW : World.alloc _ _ = w5
  have hb5 : Below w.heap.size w w5 := by rw [← hW]; (repeat' (first | (with_reducible exact Below.refl _ _) | (with_reducible assumption) | (with_reducible refine Below.drewN ?_ _) | (with_reducible refine Below.alloc ?_ ?_ _) | (with_reducible refine Below.drew ?_) | (with_reducible refine Below.setCell ?_ ?_ _) | (with_reducible refine Below.step (by assumption) ?_ ?_) | (with_reducible exact And.left (by assumption)) | go_size))
  have q0 : w5.cell? ⟨w.heap.size, 0, none⟩ = some (.slice a n c) := by { rw [← hW]; clear hW; go_simp }
  have l0 : w.heap.size < w5.heap.size := by { rw [← hW]; clear hW; simp }
  have HB5 := Lib.hid hb5
  clear hW hb5
  go_loopw [5, 6] (fun v i wr => ∃ (k : Nat) (av : Option Addr) (cv : Nat), i = .int .i64 k ∧ v = .slice av k cv ∧ k ≤ m ∧ Hid (wr.ownsRow w5.heap.size 144 2 (.slice av k cv) k (pcells (L.take k))) ∧ Hid (Below w5.heap.size w5 wr)) (fun _ i _ => m - (intOf i).toNat)
  case atStart => exact ⟨0, none, 0, rfl, rfl, Nat.zero_le _, Lib.hid (World.ownsRow_nil _ _ _ _), Lib.hid (Below.refl _ _)⟩
  case round =>
    obtain ⟨k, av, cv, rfl, rfl, hk, hO, hB⟩ := hrel
    have i0 : (0 : Int) ≤ (k : Int) := by omega
    have hBx := hB.out
    have hzr := hBx.size
    have q0r : wr.cell? ⟨w.heap.size, 0, none⟩ = some (.slice a n c) := by { rw [cellB hBx _ _ (by first | (simp; done) | (simp; omega) | omega)]; all_goals (first | assumption | go_simp) }; have lr : w.heap.size < wr.heap.size := by { omega }
    clear hBx
    rcases Nat.lt_or_ge k m with hlt | hge
    · have i1 : (k : Int) < (m : Int) := by omega
      have HBr := Lib.hid (HB5.out.trans (hB.out.mono HB5.out.size))
      obtain ⟨b, o, rfl, hb, hc⟩ := HF.out.addr (by omega)
      have p0 : wr.cell? ⟨b, o + k, none⟩ = some (.int .i64 (fs.getD k 0)) := by rw [cellB HBr.out _ _ hb]; exact hc k hlt
      have lb : b < w5.heap.size := by omega
      have hfk := HFB.out _ (getD_mem (show k < fs.length by rw [HFN.out]; exact hlt))
      have HT := Lib.hid (show pcells (L.take (k + 1)) = pcells (L.take k) ++ pcells [gPr l (fs.getD k 0)] by rw [HLL.out.1, ← List.map_take, ← List.map_take, take_snocI (by rw [HFN.out]; exact hlt), pcells_append])
      generalize fs.getD k 0 = f at *
      have HRK := Lib.hid (HR.out f hfk)
      obtain ⟨⟨g1, g2⟩, hg⟩ : ∃ g, g = gPr l f := ⟨_, rfl⟩
      rw [← hg] at HT HRK
      have HO := Lib.hid hO.out
      clear hc hg hfk hO
      go_wp2_with fail
      refine wp_region_laterM (B := w5.heap.size) [(true, 0), (true, 1), (true, 2), (true, 3), (true, 4), (true, 5), (false, 6), (false, 7), (false, 8), (true, 9)] (by kernel_rfl) (by kernel_rfl) ?_; simp only [opsOf, List.filterMap_cons, List.filterMap_nil, List.getElem?_toArray, List.getElem?_cons_zero, List.getElem?_cons_succ, Option.map_some]
      repeat (refine mix_head ?_; (show wpQuiet _ _ _ _ (_ :: _) _; go_big_quiet_step (fail)); refine wpQuiet_nil ?_)
      refine mix_tail ?_; go_wp2_with fail
      refine (HRK.out _ HBr.out.drew).mono ?_
      rintro e6 wx ⟨rfl, hbx⟩
      have hbx : Below wr.heap.size wr wx := (Below.refl wr.heap.size wr).drew.trans hbx
      go_wp2_with fail
      refine tailL_mk (hbx.mono hzr) ?_
      refine mix_tail ?_; go_wp2_with fail
      have hba : Below wr.heap.size wr (wx.alloc (Obj.cells #[.int .i64 g1, .int .i64 g2] 144)) := hbx.alloc hbx.size _
      have HSL := Lib.hid (show SlR (wx.alloc (Obj.cells #[.int .i64 g1, .int .i64 g2] 144)) (some ⟨wx.heap.size, 0, none⟩) 1 2 (pcells [(g1, g2)]) from SlR.lit wx _ [.int .i64 g1, .int .i64 g2] _ _ 1 2 rfl rfl rfl (by omega))
      refine tailL_mk (hba.mono hzr) ?_
      refine mix_tail ?_
      have hza := hba.size
      have HOA := Lib.hid (owns_below HO.out hba (fun z hz => (HO.out.lt z hz).2))
      have HBA := Lib.hid (hB.out.trans (hba.mono hB.out.size))
      go_wp2_with (at_builtin; refine wpList_append_sl _ rfl _ _ 27 rfl w5.heap.size 144 _ 2 16 Tryz.underlying27 infoGauss rfl (by omega) _ _ _ rfl HOA.out _ 1 1 (pcells [(g1, g2)]) rfl HSL.out (by intro u hu; simp [pcells] at hu; rcases hu with rfl | rfl <;> rfl) (by omega) (by omega) (by omega) ?_)
      intro v2 w2 hown2 hgr2 hb2
      obtain ⟨av2, cv2, rfl, _, _⟩ := owns_slice hown2
      rw [← HT.out] at hown2
      have HO2 := Lib.hid hown2
      have hb3 : Below w5.heap.size wr w2 := (hba.mono hzr).trans hb2
      have HB2 := Lib.hid (hB.out.trans hb3)
      go_wp2_with fail
      refine tailL_mk hb3 ?_
      clear hown2 hgr2 hb2 hb3 hba hbx HSL HOA HBA HO hB
      repeat (refine mix_head ?_; (show wpQuiet _ _ _ _ (_ :: _) _; go_big_quiet_step (fail)); refine wpQuiet_nil ?_)
      refine mix_nil ?_
      go_wp2
      go_roundw
      case rel => exact ⟨k + 1, av2, cv2, by go_num, rfl, by omega, HO2, HB2⟩
      case measure => simp [intOf]; omega
    · obtain rfl : k = m := by omega
      go_wp2
      go_ret
      exact ⟨av, cv, rfl, HB5.out.trans (hB.out.mono HB5.out.size), by have h := SlR.of_owns hO.out; rw [List.take_of_length_le (by rw [HLL.out.2]; exact Nat.le_refl _)] at h; exact h⟩
set_option maxRecDepth 100000 in
theorem gausses_any (l1 l2 : List (Int × Int)) (a1 a2 : Option Addr) (n1 c1 n2 c2 : Nat) (w : World) (h1 : PairsR w a1 n1 l1) (h2 : PairsR w a2 n2 l2) :
    Calls Tryz.prog 92 #[.slice a1 n1 c1, .slice a2 n2 c2] w fun e' w' => e' = .returned (.bool (decide (l1 = l2))) ∧ ∃ m, w' = w.drewN m := by
  have H1 := Lib.hid h1
  have H2 := Lib.hid h2
  have hn1 := h1.small
  have hn2 := h2.small
  clear h1 h2
  by_cases hne : n1 = n2
  · subst hne
    have hbb : ((n1 : Int) != (n1 : Int)) = false := by simp
    go_enter Tryz.func92, Tryz.ntmps92
    go_wp2
    go_loopw [5] (fun i wr => ∃ k : Nat, i = .int .i64 k ∧ k ≤ n1 ∧ Hid (decide (l1.drop k = l2.drop k) = decide (l1 = l2)) ∧ ∃ m, wr = w.drewN m) (fun i _ => n1 - (intOf i).toNat)
    case atStart => exact ⟨0, rfl, Nat.zero_le _, rfl, 0, rfl⟩
    case round =>
      obtain ⟨k, rfl, hk, hF, m, rfl⟩ := hrel
      by_cases hlt : k < n1
      · obtain ⟨b1, o1, rfl, hb1, hc1⟩ := H1.out.addr (by omega)
        obtain ⟨b2, o2, rfl, hb2, hc2⟩ := H2.out.addr (by omega)
        obtain ⟨p0, p1⟩ := hc1 k hlt
        obtain ⟨s0, s1⟩ := hc2 k hlt
        clear hc1 hc2
        have hF' := hF.out
        rw [drop_at l1 k (0, 0) (by rw [H1.out.len]; exact hlt), drop_at l2 k (0, 0) (by rw [H2.out.len]; exact hlt)] at hF'
        generalize l1.getD k (0, 0) = x at *
        generalize l2.getD k (0, 0) = y at *
        obtain ⟨x1, x2⟩ := x
        obtain ⟨y1, y2⟩ := y
        simp only at p0 p1 s0 s1
        have HF := Lib.hid hF'
        have hk0 : (0 : Int) ≤ (k : Int) := by omega
        have hk1 : (k : Int) < (n1 : Int) := by omega
        clear hF' hF
        by_cases hx : x1 = y1
        · subst hx
          by_cases hy : x2 = y2
          · subst hy
            go_wp2
            go_quiet (fail)
            go_wp2
            go_roundw
            case rel => exact ⟨k + 1, by go_num, by omega, Lib.hid (by simpa using HF.out), _, rfl⟩
            case measure => simp [intOf]; omega
          · have e1 : (x2 == y2) = false := by simpa using hy
            go_wp2
            go_quiet (fail)
            go_wp2
            go_ret
            exact ⟨ret_bool (by rw [← HF.out]; simp [hy]), _, World.drewN_drewN _ _ _⟩
        · have e1 : (x1 == y1) = false := by simpa using hx
          go_wp2
          go_quiet (fail)
          go_wp2
          go_ret
          exact ⟨ret_bool (by rw [← HF.out]; simp [hx]), _, World.drewN_drewN _ _ _⟩
      · go_wp2
        go_ret
        exact ⟨ret_bool (by rw [← hF.out, drop_end l1 k (by rw [H1.out.len]; omega), drop_end l2 k (by rw [H2.out.len]; omega)]; rfl), m, rfl⟩
  · have hbb : ((n1 : Int) != (n2 : Int)) = true := by simp; omega
    go_enter Tryz.func92, Tryz.ntmps92
    go_wp2
    go_ret
    refine ⟨ret_bool ?_, 0, rfl⟩
    have : ¬ l1 = l2 := by intro h; apply hne; rw [← H1.out.len, ← H2.out.len, h]
    simp [this]
end Go.Proofs.YthkekjgdknnaiaaGreat
