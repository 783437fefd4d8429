import Derived.Test.YtkphbibonagkfaaGreatDDfmd
import Derived.Test.YtkphbibonagkfaaGreatMDRErr
import Derived.Test.YtkphbibonagkfaaGreatMPlainFrac
/- A question about a network: its error: the program's function. -/
namespace Go.Proofs.YtkphbibonagkfaaGreat
open Go.RowKit
set_option linter.unusedVariables false

def askE (s l : List T3) (fs : List Int) (rs : List (Int × Int)) : Int := firstErr [(netE s).2, defsE s.length l, freE fs, respsE rs, unl ((rs.length : Int) == (fs.length : Int)) 10]
set_option maxHeartbeats 2000000 in
set_option maxRecDepth 100000 in
theorem ask_any (n c m cm nf cf nr cr : Nat) (a ap af ar : Option Addr) (s l : List T3) (fs : List Int) (rs : List (Int × Int)) (w : World) (hs : T3R w a n s) (hl : T3R w ap m l) (hf : IntsR w af nf fs) (hr : PairsR w ar nr rs) :
    Calls Tryz.prog 111 #[.agg #[.slice a n c], .slice ap m cm, .agg #[.slice af nf cf, .slice ar nr cr]] w fun e' w' => e' = .returned (.tuple #[.agg #[.slice a n c, .slice ap m cm, .slice af nf cf, .slice ar nr cr], .int .i64 (askE s l fs rs)]) ∧ Below w.heap.size w w' := by
  have hn := hs.small
  have hm := hl.small
  have hnf := hf.small
  have hnr := hr.small
  have HN := Lib.hid (fun (w' : World) (hb : Below w.heap.size w w') => networkErr_any s a n c w' (hs.below hb))
  have HD := Lib.hid (fun (w' : World) (hb : Below w.heap.size w w') => deformationsErr_any n c m cm a ap l w' hn (hl.below hb))
  have HF := Lib.hid (fun (w' : World) (hb : Below w.heap.size w w') => frequenciesErr_any fs af nf cf w' (hf.below hb))
  have HR := Lib.hid (fun (w' : World) (hb : Below w.heap.size w w') => responsesErr_any rs ar nr cr w' (hr.below hb))
  have HE := Lib.hid (show askE s l fs rs = firstErr [(netE s).2, defsE n l, freE fs, respsE rs, unl ((nr : Int) == (nf : Int)) 10] by unfold askE; rw [hs.len, hf.len, hr.len])
  generalize askE s l fs rs = E at *
  generalize (netE s).2 = e1 at *
  generalize defsE n l = e2 at *
  generalize freE fs = e3 at *
  generalize respsE rs = e4 at *
  clear hs hl hf hr
  go_enter Tryz.func111, Tryz.ntmps111
  go_wp2_with fail
  generalize hW : World.alloc _ _ = w5
  have hb5 : Below w.heap.size w w5 := by rw [← hW]; (repeat' (first | (with_reducible exact Below.refl _ _) | (with_reducible assumption) | (with_reducible refine Below.drewN ?_ _) | (with_reducible refine Below.alloc ?_ ?_ _) | (with_reducible refine Below.drew ?_) | (with_reducible refine Below.setCell ?_ ?_ _) | (with_reducible refine Below.step (by assumption) ?_ ?_) | (with_reducible exact And.left (by assumption)) | go_size))
  have q0 : w5.cell? ⟨w.heap.size, 0, none⟩ = some (.slice a n c) := by { rw [← hW]; clear hW; go_simp }
  have p0 : w5.cell? ⟨w.heap.size + 1, 0, none⟩ = some (.slice af nf cf) := by { rw [← hW]; clear hW; go_simp }
  have p1 : w5.cell? ⟨w.heap.size + 1, 1, none⟩ = some (.slice ar nr cr) := by { rw [← hW]; clear hW; go_simp }
  have z0 : w5.cell? ⟨w.heap.size + 1 + 1, 0, none⟩ = some (.slice none 0 0) := by { rw [← hW]; clear hW; go_simp }
  have z1 : w5.cell? ⟨w.heap.size + 1 + 1, 1, none⟩ = some (.slice none 0 0) := by { rw [← hW]; clear hW; go_simp }
  have z2 : w5.cell? ⟨w.heap.size + 1 + 1, 2, none⟩ = some (.slice none 0 0) := by { rw [← hW]; clear hW; go_simp }
  have z3 : w5.cell? ⟨w.heap.size + 1 + 1, 3, none⟩ = some (.slice none 0 0) := by { rw [← hW]; clear hW; go_simp }
  have f0 : w5.frozen? ⟨w.heap.size + 1 + 1, 0, none⟩ = false := by { rw [← hW]; clear hW; go_simp }
  have f1 : w5.frozen? ⟨w.heap.size + 1 + 1, 1, none⟩ = false := by { rw [← hW]; clear hW; go_simp }
  have f2 : w5.frozen? ⟨w.heap.size + 1 + 1, 2, none⟩ = false := by { rw [← hW]; clear hW; go_simp }
  have f3 : w5.frozen? ⟨w.heap.size + 1 + 1, 3, none⟩ = false := by { rw [← hW]; clear hW; go_simp }
  have l2 : w.heap.size + 1 + 1 < w5.heap.size := by { rw [← hW]; clear hW; simp }
  have ok0 : OkB w.heap.size w5.heap.size (w.heap.size + 1 + 1) := ⟨by omega, by omega⟩
  have ok1 : OkB (w.heap.size + 1) w5.heap.size (w.heap.size + 1 + 1) := ⟨by omega, by omega⟩
  have HB5 := Lib.hid hb5
  clear hW hb5
  refine wp_region_laterC (B := w5.heap.size) (b0 :=  w.heap.size + 1 + 1) [(true, 0), (true, 1), (true, 2), (true, 3), (true, 4), (true, 6), (true, 7), (true, 9), (true, 10), (true, 12), (true, 13), (true, 15), (true, 16), (true, 17), (true, 18), (true, 19), (true, 20), (true, 21), (false, 5), (false, 8), (false, 11), (false, 14), (false, 22), (false, 23), (false, 24), (false, 25), (true, 26)] (by kernel_rfl) (by kernel_rfl) ?_; simp only [opsOf, List.filterMap_cons, List.filterMap_nil, List.getElem?_toArray, List.getElem?_cons_zero, List.getElem?_cons_succ, Option.map_some]
  repeat (refine mixc_head ?_; (show wpQuiet _ _ _ _ (_ :: _) _; go_big_quiet_step (fail)); refine wpQuiet_nil ?_)
  refine mixc_tail ?_; go_wp2_with fail
  refine (HN.out _ HB5.out.drew).mono ?_
  rintro e6 w6 ⟨rfl, hb6⟩
  have HX := Lib.hid ((Below.refl w5.heap.size w5).drew.trans hb6)
  clear hb6
  go_wp2_with fail
  refine tailC_stay (SameX.of_below HX.out) ?_
  repeat (refine mixc_head ?_; (show wpQuiet _ _ _ _ (_ :: _) _; go_big_quiet_step (fail)); refine wpQuiet_nil ?_)
  refine mixc_tail ?_; go_wp2_with fail
  refine (HD.out _ (HB5.out.trans (HX.out.mono HB5.out.size))).mono ?_
  rintro e7 w7 ⟨rfl, hb7⟩
  have HX := Lib.hid (HX.out.trans (hb7.mono HX.out.size))
  clear hb7
  go_wp2_with fail
  refine tailC_stay (SameX.of_below HX.out) ?_
  repeat (refine mixc_head ?_; (show wpQuiet _ _ _ _ (_ :: _) _; go_big_quiet_step (fail)); refine wpQuiet_nil ?_)
  refine mixc_tail ?_; go_wp2_with fail
  refine (HF.out _ (HB5.out.trans (HX.out.mono HB5.out.size))).mono ?_
  rintro e8 w8 ⟨rfl, hb8⟩
  have HX := Lib.hid (HX.out.trans (hb8.mono HX.out.size))
  clear hb8
  go_wp2_with fail
  refine tailC_stay (SameX.of_below HX.out) ?_
  repeat (refine mixc_head ?_; (show wpQuiet _ _ _ _ (_ :: _) _; go_big_quiet_step (fail)); refine wpQuiet_nil ?_)
  refine mixc_tail ?_; go_wp2_with fail
  refine (HR.out _ (HB5.out.trans (HX.out.mono HB5.out.size))).mono ?_
  rintro e9 w9 ⟨rfl, hb9⟩
  have HX := Lib.hid (HX.out.trans (hb9.mono HX.out.size))
  clear hb9
  go_wp2_with fail
  refine tailC_stay (SameX.of_below HX.out) ?_
  repeat (refine mixc_head ?_; (show wpQuiet _ _ _ _ (_ :: _) _; go_big_quiet_step (fail)); refine wpQuiet_nil ?_)
  refine mixc_tail ?_; go_wp2_with fail
  refine (d_unless_any _ _ _).mono ?_
  rintro e10 w10 ⟨rfl, rfl⟩
  go_wp2_with fail
  refine tailC_stay (SameX.of_below HX.out) ?_
  repeat (refine mixc_head ?_; (show wpQuiet _ _ _ _ (_ :: _) _; go_big_quiet_step (fail)); refine wpQuiet_nil ?_)
  refine mixc_tail ?_; go_wp2_with fail
  refine tailC_stay (SameX.of_below (HX.out.alloc HX.out.size _)) ?_
  repeat (refine mixc_head ?_; (show wpQuiet _ _ _ _ (_ :: _) _; go_big_quiet_step (fail)); refine wpQuiet_nil ?_)
  refine mixc_tail ?_; go_wp2_with fail
  have HX := Lib.hid (HX.out.alloc HX.out.size (Obj.cells #[.int .i64 e1, .int .i64 e2, .int .i64 e3, .int .i64 e4, .int .i64 (unl ((nr : Int) == (nf : Int)) 10)] 32))
  refine (d_first5 _ _ _ _ _ _ _ _ _ (by rfl) (by simp)).mono ?_
  rintro e11 w11 ⟨rfl, hw11⟩
  rw [hw11] at HX
  rw [← HE.out]
  have hbx := HX.out
  have z0d : w11.cell? ⟨w.heap.size + 1 + 1, 0, none⟩ = some (.slice none 0 0) := by { rw [cellB hbx _ _ (by first | (simp; done) | (simp; omega) | omega)]; all_goals (first | assumption | go_simp) }; have z1d : w11.cell? ⟨w.heap.size + 1 + 1, 1, none⟩ = some (.slice none 0 0) := by { rw [cellB hbx _ _ (by first | (simp; done) | (simp; omega) | omega)]; all_goals (first | assumption | go_simp) }; have z2d : w11.cell? ⟨w.heap.size + 1 + 1, 2, none⟩ = some (.slice none 0 0) := by { rw [cellB hbx _ _ (by first | (simp; done) | (simp; omega) | omega)]; all_goals (first | assumption | go_simp) }; have z3d : w11.cell? ⟨w.heap.size + 1 + 1, 3, none⟩ = some (.slice none 0 0) := by { rw [cellB hbx _ _ (by first | (simp; done) | (simp; omega) | omega)]; all_goals (first | assumption | go_simp) }; have f0d : w11.frozen? ⟨w.heap.size + 1 + 1, 0, none⟩ = false := by { rw [frozenB hbx _ _ (by first | (simp; done) | (simp; omega) | omega)]; all_goals (first | assumption | go_simp) }; have f1d : w11.frozen? ⟨w.heap.size + 1 + 1, 1, none⟩ = false := by { rw [frozenB hbx _ _ (by first | (simp; done) | (simp; omega) | omega)]; all_goals (first | assumption | go_simp) }; have f2d : w11.frozen? ⟨w.heap.size + 1 + 1, 2, none⟩ = false := by { rw [frozenB hbx _ _ (by first | (simp; done) | (simp; omega) | omega)]; all_goals (first | assumption | go_simp) }; have f3d : w11.frozen? ⟨w.heap.size + 1 + 1, 3, none⟩ = false := by { rw [frozenB hbx _ _ (by first | (simp; done) | (simp; omega) | omega)]; all_goals (first | assumption | go_simp) }
  clear hbx hw11
  go_wp2_with fail
  refine tailC_stay (SameX.of_below HX.out) ?_
  repeat (refine mixc_head ?_; (show wpQuiet _ _ _ _ (_ :: _) _; go_big_quiet_step (fail)); refine wpQuiet_nil ?_)
  refine mixc_tail ?_; go_wp2_with fail
  refine tailC_stay (.set (.set (.set (.set (SameX.of_below HX.out) _) _) _) _) ?_
  repeat (refine mixc_head ?_; (show wpQuiet _ _ _ _ (_ :: _) _; go_big_quiet_step (fail)); refine wpQuiet_nil ?_)
  refine mixc_nil ?_
  go_wp2_with fail
  generalize hW : World.setCell _ _ _ = w12
  have r0 : w12.cell? ⟨w.heap.size + 1 + 1, 0, none⟩ = some (.slice a n c) := by { rw [← hW]; clear hW; go_simp }
  have r1 : w12.cell? ⟨w.heap.size + 1 + 1, 1, none⟩ = some (.slice ap m cm) := by { rw [← hW]; clear hW; go_simp }
  have r2 : w12.cell? ⟨w.heap.size + 1 + 1, 2, none⟩ = some (.slice af nf cf) := by { rw [← hW]; clear hW; go_simp }
  have r3 : w12.cell? ⟨w.heap.size + 1 + 1, 3, none⟩ = some (.slice ar nr cr) := by { rw [← hW]; clear hW; go_simp }
  have hb12 : Below w.heap.size w w12 := by { rw [← hW]; have := HB5.out.trans (HX.out.mono HB5.out.size); (repeat' (first | (with_reducible exact Below.refl _ _) | (with_reducible assumption) | (with_reducible refine Below.drewN ?_ _) | (with_reducible refine Below.alloc ?_ ?_ _) | (with_reducible refine Below.drew ?_) | (with_reducible refine Below.setCell ?_ ?_ _) | (with_reducible refine Below.step (by assumption) ?_ ?_) | (with_reducible exact And.left (by assumption)) | go_size)) }
  clear hW
  exact bodyPost_ret (v := .tuple #[.agg #[.slice a n c, .slice ap m cm, .slice af nf cf, .slice ar nr cr], .int .i64 E]) (by simp [results, Tryz.results111, go_sem, r0, r1, r2, r3]) rfl ⟨rfl, hb12⟩
end Go.Proofs.YtkphbibonagkfaaGreat

/- Two slices of Gauss numbers compared: the library's function. -/
namespace Go.Proofs.YtkphbibonagkfaaGreat
open Go.RowKit
set_option linter.unusedVariables false

theorem take_eq_step {l r : List (Int × Int)} {k : Nat} (hl : k < l.length) (hr : k < r.length) (h : l.take k = r.take k) (he : l.getD k (0, 0) = r.getD k (0, 0)) : l.take (k + 1) = r.take (k + 1) := by
  rw [List.take_add_one, List.take_add_one, h, List.getElem?_eq_getElem hl, List.getElem?_eq_getElem hr]
  simp only [List.getD, List.getElem?_eq_getElem hl, List.getElem?_eq_getElem hr, Option.getD_some] at he
  rw [he]
set_option maxHeartbeats 1000000 in
set_option maxRecDepth 100000 in
theorem equalGauss_any (l r : List (Int × Int)) (a b : Option Addr) (n c m d : Nat) (w : World) (hl : PairsR w a n l) (hr : PairsR w b m r) :
    Calls Tryz.prog 156 #[.slice a n c, .slice b m d] w fun e' w' => e' = .returned (.bool (decide (l = r))) ∧ Below w.heap.size w w' := by
  have hn := hl.small
  have hm := hr.small
  have HL := Lib.hid hl
  have HR := Lib.hid hr
  have HLN := Lib.hid hl.len
  have HRN := Lib.hid hr.len
  clear hl hr
  by_cases hnm : n = m
  · subst hnm
    obtain ⟨V, hV⟩ : ∃ V, V = decide (l = r) := ⟨_, rfl⟩
    rw [← hV]
    have HV := Lib.hid hV
    clear hV
    go_enter Tryz.func156, Tryz.ntmps156
    go_wp2_with fail
    go_loopw [13] (fun i wr => ∃ k : Nat, i = .int .i64 k ∧ k ≤ n ∧ Hid (l.take k = r.take k) ∧ Hid (Below w.heap.size w wr)) (fun i _ => n - (intOf i).toNat)
    case atStart => exact ⟨0, rfl, Nat.zero_le _, Lib.hid rfl, Lib.hid (Below.refl _ _)⟩
    case round =>
      obtain ⟨k, rfl, hk, hT, hB⟩ := hrel
      have i0 : (0 : Int) ≤ (k : Int) := by omega
      by_cases hlt : k < n
      · have i1 : (k : Int) < (n : Int) := by omega
        obtain ⟨b1, o1, rfl, hb1, hc1⟩ := (HL.out.below hB.out).addr (by omega)
        obtain ⟨b2, o2, rfl, hb2, hc2⟩ := (HR.out.below hB.out).addr (by omega)
        obtain ⟨c0, c1⟩ := hc1 k hlt
        obtain ⟨d0, d1⟩ := hc2 k hlt
        obtain ⟨p, hp⟩ : ∃ p, p = l.getD k (0, 0) := ⟨_, rfl⟩
        obtain ⟨q, hq⟩ : ∃ q, q = r.getD k (0, 0) := ⟨_, rfl⟩
        rw [← hp] at c0 c1
        rw [← hq] at d0 d1
        obtain ⟨x, y⟩ := p
        obtain ⟨u, v⟩ := q
        have HP := Lib.hid (And.intro hp hq)
        simp only at c0 c1 d0 d1
        clear hp hq hc1 hc2
        have hkl : k < l.length := by rw [HLN.out]; exact hlt
        have hkr : k < r.length := by rw [HRN.out]; exact hlt
        by_cases hxu : x = u
        · by_cases hyv : y = v
          · subst hxu hyv
            have HT := Lib.hid (take_eq_step hkl hkr hT.out (by rw [← HP.out.1, ← HP.out.2]))
            have e1 : (x == x) = true := by simp
            have e2 : (y == y) = true := by simp
            clear HP hT HL HR
            go_wp2_with fail
            refine later_of_eq 8 (by kernel_rfl) (by kernel_rfl) ?_; simp only [List.take_succ_cons, List.take_zero, List.drop_succ_cons, List.drop_zero]; repeat go_big_quiet_step (fail)
            refine wpQuiet_nil ?_; intro w6 hb6
            have HB6 := Lib.hid (hB.out.trans (hb6.mono hB.out.size))
            clear hb6 c0 c1 d0 d1 hB
            go_wp2
            go_roundw
            case rel => exact ⟨k + 1, by go_num, by omega, HT, HB6⟩
            case measure => simp [intOf]; omega
          · have hE : V = false := by
              rw [HV.out, decide_eq_false_iff_not]
              intro h
              rw [h] at HP
              have := HP.out.1.trans HP.out.2.symm
              exact hyv (congrArg Prod.snd this)
            have e1 : (x == u) = true := by simp [hxu]
            have e2 : (y == v) = false := by simp [hyv]
            subst hE
            clear HP hT HL HR HV
            go_wp2_with fail
            refine later_of_eq 8 (by kernel_rfl) (by kernel_rfl) ?_; simp only [List.take_succ_cons, List.take_zero, List.drop_succ_cons, List.drop_zero]; repeat go_big_quiet_step (fail)
            refine wpQuiet_nil ?_; intro w6 hb6
            have HB6 := Lib.hid (hB.out.trans (hb6.mono hB.out.size))
            clear hb6 c0 c1 d0 d1 hB
            go_wp2
            go_ret
            exact ⟨rfl, HB6.out⟩
        · have hE : V = false := by
            rw [HV.out, decide_eq_false_iff_not]
            intro h
            rw [h] at HP
            have := HP.out.1.trans HP.out.2.symm
            exact hxu (congrArg Prod.fst this)
          have e1 : (x == u) = false := by simp [hxu]
          subst hE
          clear HP hT HL HR HV
          go_wp2_with fail
          refine later_of_eq 8 (by kernel_rfl) (by kernel_rfl) ?_; simp only [List.take_succ_cons, List.take_zero, List.drop_succ_cons, List.drop_zero]; repeat go_big_quiet_step (fail)
          refine wpQuiet_nil ?_; intro w6 hb6
          have HB6 := Lib.hid (hB.out.trans (hb6.mono hB.out.size))
          clear hb6 c0 c1 d0 d1 hB
          go_wp2
          go_ret
          exact ⟨rfl, HB6.out⟩
      · have hE : V = true := by
          rw [HV.out, decide_eq_true_eq]
          have := hT.out
          rw [List.take_of_length_le (by rw [HLN.out]; omega), List.take_of_length_le (by rw [HRN.out]; omega)] at this
          exact this
        subst hE
        clear hT HV
        go_wp2
        go_ret
        exact ⟨rfl, hB.out⟩
  · have hV : decide (l = r) = false := by
      rw [decide_eq_false_iff_not]
      intro h
      exact hnm (by rw [← HLN.out, ← HRN.out, h])
    rw [hV]
    have h1 : ((n : Int) == (m : Int)) = false := by simp; omega
    have h2 : ((n : Int) != (m : Int)) = true := by simp; omega
    clear hV
    go_enter Tryz.func156, Tryz.ntmps156
    go_wp2
    go_ret
    exact ⟨rfl, by (repeat' (first | (with_reducible exact Below.refl _ _) | (with_reducible assumption) | (with_reducible refine Below.drewN ?_ _) | (with_reducible refine Below.alloc ?_ ?_ _) | (with_reducible refine Below.drew ?_) | (with_reducible refine Below.setCell ?_ ?_ _) | (with_reducible refine Below.step (by assumption) ?_ ?_) | (with_reducible exact And.left (by assumption)) | go_size))⟩
end Go.Proofs.YtkphbibonagkfaaGreat
