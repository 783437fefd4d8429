import Derived.Test.YtdklmcicogmeaaaGreatMDRErr
import Derived.Test.YtdklmcicogmeaaaGreatMDRec
import Derived.Test.YtdklmcicogmeaaaGreatMPlainInit
/- Two slices of Gauss numbers compared: the library's function. -/
namespace Go.Proofs.YtdklmcicogmeaaaGreat
open Go.RowKit
set_option linter.unusedVariables false

theorem take_eq_step {l r : List (Int × Int)} {k : Nat} (hl : k < l.length) (hr : k < r.length) (h : l.take k = r.take k) (he : l.getD k (0, 0) = r.getD k (0, 0)) : l.take (k + 1) = r.take (k + 1) := by
  rw [List.take_add_one, List.take_add_one, h, List.getElem?_eq_getElem hl, List.getElem?_eq_getElem hr]
  simp only [List.getD, List.getElem?_eq_getElem hl, List.getElem?_eq_getElem hr, Option.getD_some] at he
  rw [he]
set_option maxHeartbeats 1000000 in
set_option maxRecDepth 100000 in
theorem equalGauss_any (l r : List (Int × Int)) (a b : Option Addr) (n c m d : Nat) (w : World) (hl : PairsR w a n l) (hr : PairsR w b m r) :
    Calls Tryz.prog 129 #[.slice a n c, .slice b m d] w fun e' w' => e' = .returned (.bool (decide (l = r))) ∧ Below w.heap.size w w' := by
  have hn := hl.small
  have hm := hr.small
  have HL := Lib.hid hl
  have HR := Lib.hid hr
  have HLN := Lib.hid hl.len
  have HRN := Lib.hid hr.len
  clear hl hr
  by_cases hnm : n = m
  · subst hnm
    obtain ⟨V, hV⟩ : ∃ V, V = decide (l = r) := ⟨_, rfl⟩
    rw [← hV]
    have HV := Lib.hid hV
    clear hV
    go_enter Tryz.func129, Tryz.ntmps129
    go_wp2_with fail
    go_loopw [13] (fun i wr => ∃ k : Nat, i = .int .i64 k ∧ k ≤ n ∧ Hid (l.take k = r.take k) ∧ Hid (Below w.heap.size w wr)) (fun i _ => n - (intOf i).toNat)
    case atStart => exact ⟨0, rfl, Nat.zero_le _, Lib.hid rfl, Lib.hid (Below.refl _ _)⟩
    case round =>
      obtain ⟨k, rfl, hk, hT, hB⟩ := hrel
      have i0 : (0 : Int) ≤ (k : Int) := by omega
      by_cases hlt : k < n
      · have i1 : (k : Int) < (n : Int) := by omega
        obtain ⟨b1, o1, rfl, hb1, hc1⟩ := (HL.out.below hB.out).addr (by omega)
        obtain ⟨b2, o2, rfl, hb2, hc2⟩ := (HR.out.below hB.out).addr (by omega)
        obtain ⟨c0, c1⟩ := hc1 k hlt
        obtain ⟨d0, d1⟩ := hc2 k hlt
        obtain ⟨p, hp⟩ : ∃ p, p = l.getD k (0, 0) := ⟨_, rfl⟩
        obtain ⟨q, hq⟩ : ∃ q, q = r.getD k (0, 0) := ⟨_, rfl⟩
        rw [← hp] at c0 c1
        rw [← hq] at d0 d1
        obtain ⟨x, y⟩ := p
        obtain ⟨u, v⟩ := q
        have HP := Lib.hid (And.intro hp hq)
        simp only at c0 c1 d0 d1
        clear hp hq hc1 hc2
        have hkl : k < l.length := by rw [HLN.out]; exact hlt
        have hkr : k < r.length := by rw [HRN.out]; exact hlt
        by_cases hxu : x = u
        · by_cases hyv : y = v
          · subst hxu hyv
            have HT := Lib.hid (take_eq_step hkl hkr hT.out (by rw [← HP.out.1, ← HP.out.2]))
            have e1 : (x == x) = true := by simp
            have e2 : (y == y) = true := by simp
            clear HP hT HL HR
            go_wp2_with fail
            refine later_of_eq 8 (by kernel_rfl) (by kernel_rfl) ?_; simp only [List.take_succ_cons, List.take_zero, List.drop_succ_cons, List.drop_zero]; repeat go_big_quiet_step (fail)
            refine wpQuiet_nil ?_; intro w6 hb6
            have HB6 := Lib.hid (hB.out.trans (hb6.mono hB.out.size))
            clear hb6 c0 c1 d0 d1 hB
            go_wp2
            go_roundw
            case rel => exact ⟨k + 1, by go_num, by omega, HT, HB6⟩
            case measure => simp [intOf]; omega
          · have hE : V = false := by
              rw [HV.out, decide_eq_false_iff_not]
              intro h
              rw [h] at HP
              have := HP.out.1.trans HP.out.2.symm
              exact hyv (congrArg Prod.snd this)
            have e1 : (x == u) = true := by simp [hxu]
            have e2 : (y == v) = false := by simp [hyv]
            subst hE
            clear HP hT HL HR HV
            go_wp2_with fail
            refine later_of_eq 8 (by kernel_rfl) (by kernel_rfl) ?_; simp only [List.take_succ_cons, List.take_zero, List.drop_succ_cons, List.drop_zero]; repeat go_big_quiet_step (fail)
            refine wpQuiet_nil ?_; intro w6 hb6
            have HB6 := Lib.hid (hB.out.trans (hb6.mono hB.out.size))
            clear hb6 c0 c1 d0 d1 hB
            go_wp2
            go_ret
            exact ⟨rfl, HB6.out⟩
        · have hE : V = false := by
            rw [HV.out, decide_eq_false_iff_not]
            intro h
            rw [h] at HP
            have := HP.out.1.trans HP.out.2.symm
            exact hxu (congrArg Prod.fst this)
          have e1 : (x == u) = false := by simp [hxu]
          subst hE
          clear HP hT HL HR HV
          go_wp2_with fail
          refine later_of_eq 8 (by kernel_rfl) (by kernel_rfl) ?_; simp only [List.take_succ_cons, List.take_zero, List.drop_succ_cons, List.drop_zero]; repeat go_big_quiet_step (fail)
          refine wpQuiet_nil ?_; intro w6 hb6
          have HB6 := Lib.hid (hB.out.trans (hb6.mono hB.out.size))
          clear hb6 c0 c1 d0 d1 hB
          go_wp2
          go_ret
          exact ⟨rfl, HB6.out⟩
      · have hE : V = true := by
          rw [HV.out, decide_eq_true_eq]
          have := hT.out
          rw [List.take_of_length_le (by rw [HLN.out]; omega), List.take_of_length_le (by rw [HRN.out]; omega)] at this
          exact this
        subst hE
        clear hT HV
        go_wp2
        go_ret
        exact ⟨rfl, hB.out⟩
  · have hV : decide (l = r) = false := by
      rw [decide_eq_false_iff_not]
      intro h
      exact hnm (by rw [← HLN.out, ← HRN.out, h])
    rw [hV]
    have h1 : ((n : Int) == (m : Int)) = false := by simp; omega
    have h2 : ((n : Int) != (m : Int)) = true := by simp; omega
    clear hV
    go_enter Tryz.func129, Tryz.ntmps129
    go_wp2
    go_ret
    exact ⟨rfl, by (repeat' (first | (with_reducible exact Below.refl _ _) | (with_reducible assumption) | (with_reducible refine Below.drewN ?_ _) | (with_reducible refine Below.alloc ?_ ?_ _) | (with_reducible refine Below.drew ?_) | (with_reducible refine Below.setCell ?_ ?_ _) | (with_reducible refine Below.step (by assumption) ?_ ?_) | (with_reducible exact And.left (by assumption)) | go_size))⟩
end Go.Proofs.YtdklmcicogmeaaaGreat

/- A choice of changes explains what was measured: the program's function. -/
namespace Go.Proofs.YtdklmcicogmeaaaGreat
open Go.RowKit
set_option linter.unusedVariables false

/-- The changes that a list of places names. -/
def pick (l : List T3) (S : List Int) : List T3 := S.map fun i => pAt l i.toNat
def expB (s l : List T3) (fs : List Int) (rs : List (Int × Int)) (S : List Int) : Bool := decide ((netE (dfm s (pick l S))).2 = 0) && decide (fs.map (gPr (dfm s (pick l S))) = rs)
theorem pick_len (l : List T3) (S : List Int) : (pick l S).length = S.length := by simp [pick]
theorem pick_at {l : List T3} {S : List Int} {k : Nat} (h : k < S.length) : pAt (pick l S) k = pAt l (S.getD k 0).toNat := by
  unfold pick pAt
  simp [List.getD, h]
theorem pick_take {l : List T3} {S : List Int} {k : Nat} {p : T3} (h : k < S.length) (hp : l[(S.getD k 0).toNat]? = some p) : pick l (S.take (k + 1)) = pick l (S.take k) ++ [p] := by
  unfold pick
  rw [List.take_add_one, List.map_append, List.getElem?_eq_getElem h]
  have : pAt l (S.getD k 0).toNat = p := pAt_get3 hp
  simp only [List.getD, List.getElem?_eq_getElem h, Option.getD_some] at this
  simp [this]
theorem infoDef : (Tryz.prog.info? 104).map (fun i => (i.zero, i.size, i.bytes)) = some (some (.agg #[.int .i64 0, .int .i64 0, .int .i64 0]), 3, 24) := by kernel_rfl
theorem netE_pos {s : List T3} (h : (netE s).2 = 0) : 0 < s.length ∧ s.length ≤ 3 ∧ ∀ p ∈ s, secB p = true := by
  unfold netE at h
  by_cases h0 : netH s.length ≠ 0
  · rw [if_pos h0] at h; exact absurd h h0
  · rw [if_neg h0] at h
    have h1 := Decidable.not_not.1 h0
    unfold netH at h1
    obtain ⟨h2, h3⟩ := firstErr_cons.1 h1
    obtain ⟨h4, _⟩ := firstErr_cons.1 h3
    rw [unl_eq_zero (by omega), decide_eq_true_eq] at h2 h4
    refine ⟨by omega, by omega, fun p hp => ?_⟩
    by_cases h5 : 0 ≤ idxFrom (fun p => !secB p) s 0
    · rw [if_pos h5] at h; simp at h
    · have := idxFrom_any (fun p => !secB p) s 0
      have hf : s.any (fun p => !secB p) = false := by rw [← this]; simp; omega
      rw [List.any_eq_false] at hf
      simpa using hf p hp
theorem freE_zero {fs : List Int} (h : freE fs = 0) : fs.length ≤ 8 ∧ ∀ f ∈ fs, 0 ≤ f ∧ f ≤ 6 := by
  unfold freE at h
  obtain ⟨h1, h2⟩ := firstErr_cons.1 h
  obtain ⟨h3, _⟩ := firstErr_cons.1 h2
  rw [unl_eq_zero (by omega)] at h1 h3
  rw [decide_eq_true_eq] at h1
  rw [Bool.not_eq_true', List.any_eq_false] at h3
  exact ⟨by omega, fun f hf => by have := h3 f hf; simpa [wi_iff] using this⟩
set_option maxHeartbeats 2000000 in
set_option maxRecDepth 100000 in
theorem explains_any (n c m cm nf cf nr cr q cq : Nat) (a ap af ar aq : Option Addr) (s l : List T3) (fs : List Int) (rs : List (Int × Int)) (S : List Int) (w : World) (hs : T3R w a n s) (hl : T3R w ap m l) (hf : IntsR w af nf fs) (hr : PairsR w ar nr rs) (hS : IntsR w aq q S)
    (h0 : askE s l fs rs = 0) (hq : q ≤ m) (hSB : ∀ i ∈ S, 0 ≤ i ∧ i < (m : Int)) :
    Calls Tryz.prog 105 #[.agg #[.slice a n c, .slice ap m cm, .slice af nf cf, .slice ar nr cr], .slice aq q cq] w fun e' w' => e' = .returned (.bool (expB s l fs rs S)) ∧ Below w.heap.size w w' := by
  have hE := h0
  unfold askE at hE
  obtain ⟨hE1, hE⟩ := firstErr_cons.1 hE
  obtain ⟨hE2, hE⟩ := firstErr_cons.1 hE
  obtain ⟨hE3, hE⟩ := firstErr_cons.1 hE
  obtain ⟨hE4, hE⟩ := firstErr_cons.1 hE
  obtain ⟨hn0, hn3, hsb⟩ := netE_pos hE1
  obtain ⟨hm6, hdb⟩ := defsE_zero hE2
  rw [hs.len] at hn0 hn3 hdb
  rw [hl.len] at hm6
  obtain ⟨hf8, hfb⟩ := freE_zero hE3
  rw [hf.len] at hf8
  rw [hs.len] at hE2
  have HS := Lib.hid hs
  have HL := Lib.hid hl
  have HLN := Lib.hid hl.len
  have HF := Lib.hid hf
  have HR := Lib.hid hr
  have HSS := Lib.hid hS
  have HSN := Lib.hid hS.len
  have HSB := Lib.hid hSB
  have HD := Lib.hid hdb
  have HSC := Lib.hid hsb
  have HFB := Lib.hid hfb
  obtain ⟨V, hV⟩ : ∃ V, V = expB s l fs rs S := ⟨_, rfl⟩
  rw [← hV]
  have HV := Lib.hid hV
  have hqs := hS.small
  clear hs hl hf hr hS h0 hSB hE hE1 hE2 hE3 hE4 hsb hdb hfb hV
  go_enter Tryz.func105, Tryz.ntmps105
  go_wp2_with fail
  generalize hW : World.alloc _ _ = w5
  have hb5 : Below w.heap.size w w5 := by rw [← hW]; (repeat' (first | (with_reducible exact Below.refl _ _) | (with_reducible assumption) | (with_reducible refine Below.drewN ?_ _) | (with_reducible refine Below.alloc ?_ ?_ _) | (with_reducible refine Below.drew ?_) | (with_reducible refine Below.setCell ?_ ?_ _) | (with_reducible refine Below.step (by assumption) ?_ ?_) | (with_reducible exact And.left (by assumption)) | go_size))
  have q0 : w5.cell? ⟨w.heap.size, 0, none⟩ = some (.slice a n c) := by { rw [← hW]; clear hW; go_simp }
  have q1 : w5.cell? ⟨w.heap.size, 1, none⟩ = some (.slice ap m cm) := by { rw [← hW]; clear hW; go_simp }
  have q2 : w5.cell? ⟨w.heap.size, 2, none⟩ = some (.slice af nf cf) := by { rw [← hW]; clear hW; go_simp }
  have q3 : w5.cell? ⟨w.heap.size, 3, none⟩ = some (.slice ar nr cr) := by { rw [← hW]; clear hW; go_simp }
  have z5 : w5.heap.size = w.heap.size + 1 := by rw [← hW]; simp
  have HZ := Lib.hid z5
  have HB5 := Lib.hid hb5
  have l0 : w.heap.size < w5.heap.size := by omega
  clear hW hb5 z5
  go_loopw [5, 11] (fun v i wr => ∃ (k : Nat) (av : Option Addr) (cv : Nat), i = .int .i64 k ∧ v = .slice av k cv ∧ k ≤ q ∧ Hid (wr.ownsRow (w.heap.size + 1) 104 3 (.slice av k cv) k (ecells e3 (pick l (S.take k)))) ∧ Hid (Below (w.heap.size + 1) w5 wr)) (fun _ i _ => q - (intOf i).toNat)
  case atStart => exact ⟨0, none, 0, rfl, rfl, Nat.zero_le _, Lib.hid (World.ownsRow_nil _ _ _ _), Lib.hid (Below.refl _ _)⟩
  case round =>
    obtain ⟨k, av, cv, rfl, rfl, hk, hO, hB⟩ := hrel
    have i0 : (0 : Int) ≤ (k : Int) := by omega
    have hzr := hB.out.size
    have HBW := Lib.hid (HB5.out.trans (hB.out.mono (by omega)))
    by_cases hlt : k < q
    · have i1 : (k : Int) < (q : Int) := by omega
      obtain ⟨b0, o0, rfl, hb0, hc0⟩ := (HSS.out.below HBW.out).addr (by omega)
      have hcs := hc0 k hlt
      have hks : k < S.length := by rw [HSN.out]; exact hlt
      have hsb := HSB.out _ (getD_mem hks)
      have hpt := fun p => pick_take (p := p) (l := l) hks
      generalize S.getD k 0 = x at *
      obtain ⟨x, rfl⟩ : ∃ y : Nat, x = y := ⟨x.toNat, by omega⟩
      have hxm : x < m := by omega
      rw [Int.toNat_natCast] at hpt
      obtain ⟨b1, o1, rfl, hb1, hc1⟩ := (HL.out.below HBW.out).addr (by omega)
      obtain ⟨⟨x1, x2, x3⟩, hx⟩ := ER.get HL.out hxm
      obtain ⟨c0, c1, c2⟩ := hc1 x _ hx
      have HT := Lib.hid (show ecells e3 (pick l (S.take (k + 1))) = ecells e3 (pick l (S.take k)) ++ [.int .i64 x1, .int .i64 x2, .int .i64 x3] by rw [hpt _ hx, ecells_append, ecells_one]; rfl)
      have q1r : wr.cell? ⟨w.heap.size, 1, none⟩ = some (.slice (some ⟨b1, o1, none⟩) m cm) := by rw [cellB hB.out _ _ (by omega)]; exact q1
      have ix0 : (0 : Int) ≤ (x : Int) := by omega
      have ix1 : (x : Int) < (m : Int) := by omega
      simp only at c0 c1 c2
      clear hc0 hc1 hpt hx hsb hks
      go_wp2_with (at_builtin; refine wpList_append_sl _ rfl _ _ 82 rfl (w.heap.size + 1) 104 _ 3 24 Tryz.underlying82 infoDef rfl (by omega) (.slice av k cv) k _ rfl (hO.out.alloc _) _ 1 1 [.int .i64 x1, .int .i64 x2, .int .i64 x3] rfl (SlR.lit _ _ _ _ _ 1 3 (by rfl) (by simp) rfl (by omega)) (by simp [Value.oneCell']) (by omega) (by omega) (by simp; omega) ?_)
      intro v2 w2 hown2 hgr2 hb2
      obtain ⟨av2, cv2, rfl, _, _⟩ := owns_slice hown2
      rw [← HT.out] at hown2
      have HO2 := Lib.hid hown2
      have HB2 := Lib.hid ((hB.out.alloc (by omega) _).trans hb2)
      clear hown2 hgr2 hb2 hO hB HT
      go_wp2
      go_roundw
      case rel => exact ⟨k + 1, av2, cv2, by go_num, rfl, by omega, HO2, HB2⟩
      case measure => simp [intOf]; omega
    · obtain rfl : q = k := by omega
      have hO' := hO.out
      rw [List.take_of_length_le (by rw [HSN.out]; omega)] at hO'
      have HO := Lib.hid hO'
      have HPD := Lib.hid (show ∀ j, j < (pick l S).length → (0 ≤ (pAt (pick l S) j).x ∧ (pAt (pick l S) j).x < (n : Int)) ∧ (0 ≤ (pAt (pick l S) j).y ∧ (pAt (pick l S) j).y ≤ 2) ∧ (-10 ≤ (pAt (pick l S) j).z ∧ (pAt (pick l S) j).z ≤ 10) from fun j hj => by
        rw [pick_len] at hj
        rw [pick_at hj]
        have h1 := HSB.out _ (getD_mem hj)
        exact HD.out (S.getD j 0).toNat (by rw [HLN.out]; omega))
      have HC := Lib.hid (fun (w' : World) (hb : Below wr.heap.size wr w') => deformed_any n c q cv a av s (pick l S) w' ((HS.out.below HBW.out).below hb) hn0 (by omega) HSC.out ((ER.of_owns (by rw [pick_len]; exact HSN.out) HO.out : T3R wr av q (pick l S)).below hb) (by omega) HPD.out)
      have hV := HV.out
      unfold expB at hV
      have hDl : (dfm s (pick l S)).length = n := by rw [dfm_len]; exact HS.out.len
      generalize dfm s (pick l S) = D at *
      have HV := Lib.hid hV
      have HDl := Lib.hid hDl
      have hBo := hB.out
      have x0 : wr.cell? ⟨w.heap.size, 0, none⟩ = some (.slice a n c) := by { rw [cellB hBo _ _ (by first | (simp; done) | (simp; omega) | omega)]; all_goals (first | assumption | go_simp) }; have x1 : wr.cell? ⟨w.heap.size, 1, none⟩ = some (.slice ap m cm) := by { rw [cellB hBo _ _ (by first | (simp; done) | (simp; omega) | omega)]; all_goals (first | assumption | go_simp) }; have x2 : wr.cell? ⟨w.heap.size, 2, none⟩ = some (.slice af nf cf) := by { rw [cellB hBo _ _ (by first | (simp; done) | (simp; omega) | omega)]; all_goals (first | assumption | go_simp) }; have x3 : wr.cell? ⟨w.heap.size, 3, none⟩ = some (.slice ar nr cr) := by { rw [cellB hBo _ _ (by first | (simp; done) | (simp; omega) | omega)]; all_goals (first | assumption | go_simp) }
      clear q0 q1 q2 q3 hBo
      clear hO hO' hV HPD hDl HSB HD HSC HSS HL
      go_wp2_with fail
      refine (HC.out _ (Below.refl _ _)).mono ?_
      rintro e6 w6 ⟨aD, cD, rfl, hb6, ho6⟩
      have hz6 := hb6.size
      have lr : w.heap.size < wr.heap.size := by omega
      have y0 : w6.cell? ⟨w.heap.size, 0, none⟩ = some (.slice a n c) := by { rw [cellB hb6 _ _ (by first | (simp; done) | (simp; omega) | omega)]; all_goals (first | assumption | go_simp) }; have y1 : w6.cell? ⟨w.heap.size, 1, none⟩ = some (.slice ap m cm) := by { rw [cellB hb6 _ _ (by first | (simp; done) | (simp; omega) | omega)]; all_goals (first | assumption | go_simp) }; have y2 : w6.cell? ⟨w.heap.size, 2, none⟩ = some (.slice af nf cf) := by { rw [cellB hb6 _ _ (by first | (simp; done) | (simp; omega) | omega)]; all_goals (first | assumption | go_simp) }; have y3 : w6.cell? ⟨w.heap.size, 3, none⟩ = some (.slice ar nr cr) := by { rw [cellB hb6 _ _ (by first | (simp; done) | (simp; omega) | omega)]; all_goals (first | assumption | go_simp) }
      have HB6 := Lib.hid (HBW.out.trans (hb6.mono (by omega)))
      have HO6 := Lib.hid ho6
      have l6 : w.heap.size < w6.heap.size := by omega
      clear hb6 ho6 x0 x1 x2 x3 HC HO hB
      go_wp2_with fail
      generalize hW : World.alloc _ _ = wd
      have hbd : Below w6.heap.size w6 wd := by rw [← hW]; (repeat' (first | (with_reducible exact Below.refl _ _) | (with_reducible assumption) | (with_reducible refine Below.drewN ?_ _) | (with_reducible refine Below.alloc ?_ ?_ _) | (with_reducible refine Below.drew ?_) | (with_reducible refine Below.setCell ?_ ?_ _) | (with_reducible refine Below.step (by assumption) ?_ ?_) | (with_reducible exact And.left (by assumption)) | go_size))
      have d0 : wd.cell? ⟨w6.heap.size, 0, none⟩ = some (.slice aD n cD) := by { rw [← hW]; clear hW; go_simp }
      have hzd : wd.heap.size = w6.heap.size + 1 := by rw [← hW]; simp
      have x0 : wd.cell? ⟨w.heap.size, 0, none⟩ = some (.slice a n c) := by { rw [cellB hbd _ _ (by first | (simp; done) | (simp; omega) | omega)]; all_goals (first | assumption | go_simp) }; have x1 : wd.cell? ⟨w.heap.size, 1, none⟩ = some (.slice ap m cm) := by { rw [cellB hbd _ _ (by first | (simp; done) | (simp; omega) | omega)]; all_goals (first | assumption | go_simp) }; have x2 : wd.cell? ⟨w.heap.size, 2, none⟩ = some (.slice af nf cf) := by { rw [cellB hbd _ _ (by first | (simp; done) | (simp; omega) | omega)]; all_goals (first | assumption | go_simp) }; have x3 : wd.cell? ⟨w.heap.size, 3, none⟩ = some (.slice ar nr cr) := by { rw [cellB hbd _ _ (by first | (simp; done) | (simp; omega) | omega)]; all_goals (first | assumption | go_simp) }
      have HBd := Lib.hid (HB6.out.trans (hbd.mono HB6.out.size))
      have HTD := Lib.hid (show T3R wd aD n D from ER.of_owns HDl.out (owns_below HO6.out hbd (fun z hz => (HO6.out.lt z hz).2)))
      have ld : w.heap.size < wd.heap.size := by omega
      have ldd : w6.heap.size < wd.heap.size := by omega
      clear hW hbd hzd y0 y1 y2 y3 HO6 HB6
      have HN := Lib.hid (fun (w' : World) (hb : Below wd.heap.size wd w') => networkErr_any D aD n cD w' (HTD.out.below hb))
      by_cases hg : (netE D).2 = 0
      · obtain ⟨_, hD3, hDs⟩ := netE_pos hg
        have HRS := Lib.hid (fun (w' : World) (hb : Below wd.heap.size wd w') => responses_any D fs aD af n cD nf cf w' (HTD.out.below hb) (HF.out.below (HBd.out.trans (hb.mono HBd.out.size))) (by omega) hDs HFB.out (by omega))
        have hV := HV.out
        rw [hg, decide_eq_true rfl, Bool.true_and] at hV
        rw [hg] at HN
        generalize fs.map (gPr D) = G at *
        have HV := Lib.hid hV
        clear hV hg hD3 hDs HTD HFB HF
        refine wp_region_laterM (B := wd.heap.size) [(true, 0), (false, 1), (true, 2), (true, 3), (true, 4), (true, 5), (true, 6), (true, 7), (true, 9), (true, 10), (true, 11), (false, 8), (false, 12), (true, 13), (true, 14)] (by kernel_rfl) (by kernel_rfl) ?_; simp only [opsOf, List.filterMap_cons, List.filterMap_nil, List.getElem?_toArray, List.getElem?_cons_zero, List.getElem?_cons_succ, Option.map_some]
        repeat (refine mix_head ?_; (show wpQuiet _ _ _ _ (_ :: _) _; go_big_quiet_step (fail)); refine wpQuiet_nil ?_)
        refine mix_tail ?_; go_wp2_with fail
        refine (HN.out _ (Below.refl wd.heap.size wd).drew).mono ?_
        rintro e7 w7 ⟨rfl, hb7⟩
        have HB7 := Lib.hid ((Below.refl wd.heap.size wd).drew.trans hb7)
        clear hb7
        go_wp2_with fail
        refine tailL_mk HB7.out ?_
        repeat (refine mix_head ?_; (show wpQuiet _ _ _ _ (_ :: _) _; go_big_quiet_step (fail)); refine wpQuiet_nil ?_)
        refine mix_tail ?_; go_wp2_with fail
        refine (HRS.out _ HB7.out).mono ?_
        rintro e8 w8 ⟨aG, cG, rfl, hcG, hb8, hpG, _⟩
        have HB8 := Lib.hid (HB7.out.trans (hb8.mono HB7.out.size))
        have HG := Lib.hid hpG
        clear hb8 hpG HRS
        go_wp2_with fail
        refine tailL_mk HB8.out ?_
        refine mix_tail ?_; go_wp2_with fail
        refine (equalGauss_any _ _ _ _ _ _ _ _ _ HG.out (HR.out.below (HBd.out.trans (HB8.out.mono HBd.out.size)))).mono ?_
        rintro e9 w9 ⟨rfl, hb9⟩
        rw [← HV.out]
        have HB9 := Lib.hid (HB8.out.trans (hb9.mono HB8.out.size))
        clear hb9
        go_wp2_with fail
        refine tailL_mk HB9.out ?_
        repeat (refine mix_head ?_; (show wpQuiet _ _ _ _ (_ :: _) _; go_big_quiet_step (fail)); refine wpQuiet_nil ?_)
        refine mix_nil ?_
        go_wp2_with fail
        go_ret
        exact ⟨rfl, HBd.out.trans (HB9.out.mono HBd.out.size)⟩
      · have hV := HV.out
        rw [decide_eq_false hg, Bool.false_and] at hV
        have hg2 : ((netE D).2 == 0) = false := by simpa using hg
        generalize (netE D).2 = e at *
        subst hV
        clear HV hg HTD
        refine later_of_eq 12 (by kernel_rfl) (by kernel_rfl) ?_; simp only [List.take_succ_cons, List.take_zero, List.drop_succ_cons, List.drop_zero]; repeat go_big_quiet_step (exact calls_later (HN.out _ (Below.trans (by (repeat' (first | (with_reducible exact Below.refl _ _) | (with_reducible assumption) | (with_reducible refine Below.drewN ?_ _) | (with_reducible refine Below.alloc ?_ ?_ _) | (with_reducible refine Below.drew ?_) | (with_reducible refine Below.setCell ?_ ?_ _) | (with_reducible refine Below.step (by assumption) ?_ ?_) | (with_reducible exact And.left (by assumption)) | go_size))) (Below.mono (Later.below _) (by simp)))))
        refine wpQuiet_nil ?_; intro w7 hb7
        have HB7 := Lib.hid (show Below wd.heap.size wd w7 by (repeat' (first | (with_reducible exact Below.refl _ _) | (with_reducible assumption) | (with_reducible refine Below.drewN ?_ _) | (with_reducible refine Below.alloc ?_ ?_ _) | (with_reducible refine Below.drew ?_) | (with_reducible refine Below.setCell ?_ ?_ _) | (with_reducible refine Below.step (by assumption) ?_ ?_) | (with_reducible exact And.left (by assumption)) | go_size)))
        clear hb7
        go_wp2
        go_ret
        exact ⟨rfl, HBd.out.trans (HB7.out.mono HBd.out.size)⟩
end Go.Proofs.YtdklmcicogmeaaaGreat
