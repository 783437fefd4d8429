import Derived.Test.YtbjgklifmillgaaGreatWst
/- The envelope, of the program. -/
namespace Go.Proofs.YtbjgklifmillgaaGreat
open Go.RowKit
set_option linter.unusedVariables false

set_option maxRecDepth 100000 in
theorem envelopeOf_bad (s e t : List Int) (a a1 a2 : Option Addr) (n c n1 c1 n2 c2 : Nat) (g : Bool) (w : World) (hs : IntsR w a n s) (he : IntsR w a1 n1 e) (ht : IntsR w a2 n2 t) (h : ladErr s e t ≠ 0) :
    Calls Tryz.prog 10 #[.agg #[.slice a n c, .slice a1 n1 c1, .slice a2 n2 c2, .bool g]] w fun e' w' => e' = .returned (.tuple #[.slice none 0 0, .int .i64 (ladErr s e t)]) ∧ Below w.heap.size w w' := by
  have HS := Lib.hid (fun (v : World) (hb' : Below w.heap.size w v) => initialOf_bad s e t a a1 a2 n c n1 c1 n2 c2 g v (hs.below hb') (he.below hb') (ht.below hb') h)
  clear hs he ht
  generalize ladErr s e t = el at HS h
  have h1' : (el != 0) = true := by simpa using h
  clear h
  go_enter Tryz.func10, Tryz.ntmps10
  go_wp2_with fail
  refine (HS.out _ (by (repeat' (first | (with_reducible exact Below.refl _ _) | (with_reducible assumption) | (with_reducible refine Below.drewN ?_ _) | (with_reducible refine Below.alloc ?_ ?_ _) | (with_reducible refine Below.drew ?_) | (with_reducible refine Below.setCell ?_ ?_ _) | (with_reducible refine Below.step (by assumption) ?_ ?_) | (with_reducible exact And.left (by assumption)) | go_size)))).mono ?_
  rintro e5 w5 ⟨rfl, hb5⟩
  have HB5 := Lib.hid (show Below w.heap.size w w5 by (repeat' (first | (with_reducible exact Below.refl _ _) | (with_reducible assumption) | (with_reducible refine Below.drewN ?_ _) | (with_reducible refine Below.alloc ?_ ?_ _) | (with_reducible refine Below.drew ?_) | (with_reducible refine Below.setCell ?_ ?_ _) | (with_reducible refine Below.step (by assumption) ?_ ?_) | (with_reducible exact And.left (by assumption)) | go_size)))
  clear hb5
  go_wp2
  go_ret2
  exact ⟨rfl, HB5.out⟩
set_option maxHeartbeats 2000000 in
set_option maxRecDepth 100000 in
theorem envelopeOf_ok (s e t : List Int) (a a1 a2 : Option Addr) (n c c1 c2 L : Nat) (g : Bool) (w : World) (hs : IntsR w a n s) (he : IntsR w a1 n e) (ht : IntsR w a2 n t) (h : ladErr s e t = 0) (hl : Lad s e g n L) (bt : ∀ x ∈ t, 1 ≤ x ∧ x ≤ 1000) :
    Calls Tryz.prog 10 #[.agg #[.slice a n c, .slice a1 n c1, .slice a2 n c2, .bool g]] w fun e' w' => Below w.heap.size w w' ∧ EPost (envBad s e t n L g) (envL s e t n L g) (n + 1) e' w' := by
  have HIO := Lib.hid (fun (v : World) (hb : Below w.heap.size w v) => initialOf_ok s e t a a1 a2 n c n c1 n c2 L g v (hs.below hb) (he.below hb) (ht.below hb) h hl.hL)
  have HFO := Lib.hid (fun (v : World) (hb : Below w.heap.size w v) => finalOf_ok s e t a a1 a2 n c n c1 n c2 g v (hs.below hb) (he.below hb) (ht.below hb) h)
  have hn0 := hl.n0
  have hn6 := hl.n6
  have htl := ht.len
  have HLK := Lib.hid (fun hgood j (hj : j < n + 1) => (hl.ok hgood hj).1)
  have HFP := Lib.hid (fun j (hj : j < n + 1) => fin_parts g bt (show n ≤ t.length by omega) hn0 hn6 hj)
  clear hs he ht h hl bt htl
  go_enter Tryz.func10, Tryz.ntmps10
  go_wp2_with fail
  refine (HIO.out _ (by (repeat' (first | (with_reducible exact Below.refl _ _) | (with_reducible assumption) | (with_reducible refine Below.drewN ?_ _) | (with_reducible refine Below.alloc ?_ ?_ _) | (with_reducible refine Below.drew ?_) | (with_reducible refine Below.setCell ?_ ?_ _) | (with_reducible refine Below.step (by assumption) ?_ ?_) | (with_reducible exact And.left (by assumption)) | go_size)))).mono ?_
  rintro e5 w5 ⟨hb5, hfr⟩
  have hz5 := hb5.size
  simp only [World.size_alloc] at hz5
  have q05 : w5.cell? ⟨w.heap.size, 0, none⟩ = some (.slice a n c) := by { rw [cellB hb5 _ _ (by first | (simp; done) | (simp; omega) | omega)]; all_goals (first | assumption | go_simp) }; have q15 : w5.cell? ⟨w.heap.size, 1, none⟩ = some (.slice a1 n c1) := by { rw [cellB hb5 _ _ (by first | (simp; done) | (simp; omega) | omega)]; all_goals (first | assumption | go_simp) }; have q25 : w5.cell? ⟨w.heap.size, 2, none⟩ = some (.slice a2 n c2) := by { rw [cellB hb5 _ _ (by first | (simp; done) | (simp; omega) | omega)]; all_goals (first | assumption | go_simp) }; have q35 : w5.cell? ⟨w.heap.size, 3, none⟩ = some (.bool g) := by { rw [cellB hb5 _ _ (by first | (simp; done) | (simp; omega) | omega)]; all_goals (first | assumption | go_simp) }; have l5 : w.heap.size < w5.heap.size := by { omega }
  have HB5 := Lib.hid (show Below w.heap.size w w5 by (repeat' (first | (with_reducible exact Below.refl _ _) | (with_reducible assumption) | (with_reducible refine Below.drewN ?_ _) | (with_reducible refine Below.alloc ?_ ?_ _) | (with_reducible refine Below.drew ?_) | (with_reducible refine Below.setCell ?_ ?_ _) | (with_reducible refine Below.step (by assumption) ?_ ?_) | (with_reducible exact And.left (by assumption)) | go_size)))
  clear hb5 hz5 HIO
  rcases hfr with ⟨hbad, rfl⟩ | ⟨hgood, au, cu, rfl, hu⟩
  · have HW := Lib.hid (show envBad s e t n L g = true by unfold envBad; rw [hbad]; rfl)
    clear hbad
    go_wp2
    go_ret2
    exact ⟨HB5.out, .inl ⟨HW.out, rfl⟩⟩
  · have HGD := Lib.hid hgood
    have HLK := Lib.hid (HLK.out hgood)
    have HU := Lib.hid hu
    clear hgood hu
    go_wp2_with fail
    refine (HFO.out _ HB5.out).mono ?_
    rintro e6 w6 ⟨hb6, av, cv, rfl, hv⟩
    have HV := Lib.hid hv
    have HU := Lib.hid (HU.out.below hb6)
    have HB6 := Lib.hid (HB5.out.trans (hb6.mono HB5.out.size))
    clear hb6 hv q05 q15 q25 q35 l5 HFO HB5
    go_wp2
    go_loopw [8, 29] (fun v i wr => ∃ (k : Nat) (ao : Option Addr) (co : Nat), i = .int .i64 k ∧ k ≤ n + 1 ∧ v = .slice ao k co ∧ Hid (wr.ownsRow w6.heap.size 28 2 (.slice ao k co) k (pcells ((envL s e t n L g).take k))) ∧ Hid (∀ j, j < k → smallF (envAt s e t n L g j) = true) ∧ Hid (Below w6.heap.size w6 wr)) (fun _ i _ => n + 1 - (intOf i).toNat)
    case atStart => exact ⟨0, none, 0, rfl, Nat.zero_le _, rfl, Lib.hid (World.ownsRow_nil _ _ _ _), Lib.hid (fun j hj => by omega), Lib.hid (Below.refl _ _)⟩
    case round =>
      obtain ⟨k, ao, co, rfl, hk, rfl, hO, hS, hB⟩ := hrel
      obtain ⟨w7, rfl⟩ : ∃ w', w' = wr := ⟨wr, rfl⟩
      have hz7 := hB.out.size
      have HO7 := Lib.hid hO.out
      have HS7 := Lib.hid hS.out
      have HB7 := Lib.hid hB.out
      clear hO hS hB
      rcases Nat.lt_or_ge k (n + 1) with hlt | hge
      · obtain ⟨bv, ov, rfl, lbv, hcv⟩ := HV.out.addr (by omega)
        obtain ⟨bu, ou, rfl, lbu, hcu⟩ := HU.out.addr (by omega)
        have cv0 := (hcv k hlt).1
        have cv1 := (hcv k hlt).2
        have cu0 := (hcu k hlt).1
        have cu1 := (hcu k hlt).2
        rw [← cellB HB7.out _ _ lbv] at cv0 cv1
        rw [← cellB HB7.out _ _ lbu] at cu0 cu1
        have hfp := HFP.out k hlt
        have hlk := HLK.out k hlt
        unfold FrOk at hlk
        have HEA := Lib.hid (show envAt s e t n L g k = envF (gp (finO t n g) k) (gp (initOf s e n L) k) from rfl)
        have HES := Lib.hid (envL_succ s e t n L g k hlt)
        change _ = some (Value.int .i64 (gp (finO t n g) k).1) at cv0
        change _ = some (Value.int .i64 (gp (finO t n g) k).2) at cv1
        change _ = some (Value.int .i64 (gp (initOf s e n L) k).1) at cu0
        change _ = some (Value.int .i64 (gp (initOf s e n L) k).2) at cu1
        generalize gp (finO t n g) k = V at *
        generalize gp (initOf s e n L) k = U at *
        obtain ⟨vn, vd⟩ := V
        obtain ⟨un, ud⟩ := U
        simp only at cv0 cv1 cu0 cu1 hfp hlk
        have hbd := env_bd hfp.1 hfp.2 ⟨hlk.2.2.1, hlk.2.2.2.1⟩ ⟨by omega, hlk.2.2.2.2⟩
        obtain ⟨⟨P, Q⟩, hPQ⟩ : ∃ f, envF (vn, vd) (un, ud) = f := ⟨_, rfl⟩
        rw [hPQ] at HEA
        rw [HEA.out] at HES
        have hE : low (envN vn vd un ud) (vd * ud) = (P, Q) := hPQ
        have hNN : envN vn vd un ud = vn * ud + sz (vn * ud - un * vd) := rfl
        rw [hNN] at hE
        have hsz : 0 ≤ sz (vn * ud - un * vd) ∧ sz (vn * ud - un * vd) ≤ 12000000000000 := by unfold sz; omega
        have hlow := fun w' => lowest_any (vn * ud + sz (vn * ud - un * vd)) (vd * ud) w' (by omega) (by omega) (by omega) (by omega)
        rw [show (vn * ud + sz (vn * ud - un * vd)).tdiv (gc (vn * ud + sz (vn * ud - un * vd)) (vd * ud)) = P from congrArg Prod.fst hE, show vd * ud / gc (vn * ud + sz (vn * ud - un * vd)) (vd * ud) = Q from congrArg Prod.snd hE] at hlow
        have HLOW := Lib.hid hlow
        have HSM := Lib.hid (fun w' => isSmall_any P Q w')
        rw [show (wi P (-1000000000) 1000000000 && decide (Q ≤ 1000000000)) = smallF (P, Q) from rfl] at HSM
        have b1 := hbd.1
        have b2 := hbd.2.1
        have b3 := hbd.2.2
        have k0 : (0 : Int) ≤ (k : Int) := by omega
        have k1 : (k : Int) < (n : Int) + 1 := by omega
        have lv7 : bv < w7.heap.size := by omega
        have lu7 : bu < w7.heap.size := by omega
        clear hcv hcu hfp hlk hbd hPQ hE hNN hlow
        obtain ⟨M1, hM1⟩ : ∃ x, x = vn * ud := ⟨_, rfl⟩
        obtain ⟨M2, hM2⟩ : ∃ x, x = vd * ud := ⟨_, rfl⟩
        obtain ⟨M3, hM3⟩ : ∃ x, x = un * vd := ⟨_, rfl⟩
        have m1 : vn * ud = M1 := hM1.symm
        have m2 : vd * ud = M2 := hM2.symm
        have m3 : un * vd = M3 := hM3.symm
        rw [m1] at b1
        rw [m2] at b2
        rw [m3] at b3
        rw [m1, m3] at hsz
        rw [m1, m2, m3] at HLOW
        clear hM1 hM2 hM3
        go_wp2_with fail
        generalize hW : World.alloc _ _ = w8 at *
        have hb8 : Below w7.heap.size w7 w8 := by rw [← hW]; (repeat' (first | (with_reducible exact Below.refl _ _) | (with_reducible assumption) | (with_reducible refine Below.drewN ?_ _) | (with_reducible refine Below.alloc ?_ ?_ _) | (with_reducible refine Below.drew ?_) | (with_reducible refine Below.setCell ?_ ?_ _) | (with_reducible refine Below.step (by assumption) ?_ ?_) | (with_reducible exact And.left (by assumption)) | go_size))
        have hz8 := hb8.size
        have y0 : w8.cell? ⟨w7.heap.size, 0, none⟩ = some (.int .i64 vn) := by { rw [← hW]; clear hW; go_simp }
        have y1 : w8.cell? ⟨w7.heap.size, 1, none⟩ = some (.int .i64 vd) := by { rw [← hW]; clear hW; go_simp }
        have ly : w7.heap.size < w8.heap.size := by rw [← hW]; simp
        have cv0' : w8.cell? ⟨bv, ov + k * 2, none⟩ = some (.int .i64 vn) := by { rw [cellB hb8 _ _ (by first | (simp; done) | (simp; omega) | omega)]; all_goals (first | assumption | go_simp) }; have cv1' : w8.cell? ⟨bv, ov + k * 2 + 1, none⟩ = some (.int .i64 vd) := by { rw [cellB hb8 _ _ (by first | (simp; done) | (simp; omega) | omega)]; all_goals (first | assumption | go_simp) }; have cu0' : w8.cell? ⟨bu, ou + k * 2, none⟩ = some (.int .i64 un) := by { rw [cellB hb8 _ _ (by first | (simp; done) | (simp; omega) | omega)]; all_goals (first | assumption | go_simp) }; have cu1' : w8.cell? ⟨bu, ou + k * 2 + 1, none⟩ = some (.int .i64 ud) := by { rw [cellB hb8 _ _ (by first | (simp; done) | (simp; omega) | omega)]; all_goals (first | assumption | go_simp) }; have lu8 : bu < w8.heap.size := by { omega }
        have HO8 := Lib.hid (owns_below HO7.out hb8 (fun q hq => (HO7.out.lt q hq).2))
        have HB8 := Lib.hid (HB7.out.trans (hb8.mono hz7))
        clear hW hb8 cv0 cv1 cu0 cu1 HO7 HB7
        obtain ⟨Y, hY⟩ : ∃ Y, Y = w7.heap.size := ⟨_, rfl⟩
        rw [← hY] at y0 y1 ly
        simp only [← hY]
        clear hY
        refine later_all (by kernel_rfl) (by kernel_rfl) ?_; repeat go_big_quiet_step(fail)
        refine wpQuiet_nil ?_; intro w9 hb9
        have hz9 := hb9.size
        have y0' : w9.cell? ⟨Y, 0, none⟩ = some (.int .i64 vn) := by { rw [cellB hb9 _ _ (by first | (simp; done) | (simp; omega) | omega)]; all_goals (first | assumption | go_simp) }; have y1' : w9.cell? ⟨Y, 1, none⟩ = some (.int .i64 vd) := by { rw [cellB hb9 _ _ (by first | (simp; done) | (simp; omega) | omega)]; all_goals (first | assumption | go_simp) }; have cu0 : w9.cell? ⟨bu, ou + k * 2, none⟩ = some (.int .i64 un) := by { rw [cellB hb9 _ _ (by first | (simp; done) | (simp; omega) | omega)]; all_goals (first | assumption | go_simp) }; have cu1 : w9.cell? ⟨bu, ou + k * 2 + 1, none⟩ = some (.int .i64 ud) := by { rw [cellB hb9 _ _ (by first | (simp; done) | (simp; omega) | omega)]; all_goals (first | assumption | go_simp) }; have lu9 : bu < w9.heap.size := by { omega }; have ly9 : Y < w9.heap.size := by { omega }
        have HO9 := Lib.hid (owns_below HO8.out hb9 (fun q hq => (HO8.out.lt q hq).2))
        have HB9 := Lib.hid (HB8.out.trans (hb9.mono HB8.out.size))
        clear hb9 y0 y1 cv0' cv1' cu0' cu1' HO8 HB8 ly
        go_wp2_with fail
        go_cut [13] from 50 to 64 (fun v13 wx => ∃ X : Nat, v13 = .pointer (some ⟨X, 0, none⟩) ∧ wx.cell? ⟨X, 0, none⟩ = some (.int .i64 P) ∧ wx.cell? ⟨X, 1, none⟩ = some (.int .i64 Q) ∧ X < wx.heap.size ∧ Hid (Below w9.heap.size w9 wx))
        case first =>
          have HN := Lib.hid (Below.refl w9.heap.size w9).drew
          refine wp_region_laterT (B := w9.heap.size) (.head 0 (.head 1 (.head 2 (.head 3 (.head 4 (.head 5 (.head 6 (.head 7 (.head 8 (.head 9 (.head 10 (.head 13 (.two 11 (.head 12 (.two 14 (.one 15 (.one 16 .done)) 15 (.one 14 (.one 16 .done)))) 15 (.one 11 (.head 12 (.one 14 (.one 16 .done))))))))))))))))) (by kernel_rfl) (by kernel_rfl) ?_
          repeat (refine tree_head rfl ?_; (show wpQuiet _ _ _ _ (_ :: _) _; go_big_quiet_step (fail)); refine wpQuiet_nil ?_)
          refine tree_two rfl rfl ?_ ?_
          · go_wp2_with fail
            refine (size_any _ _ (by omega) (by omega)).mono ?_
            rintro ex wsame ⟨rfl, rfl⟩
            go_wp2_with fail
            refine tailL_mk HN.out ?_
            repeat (refine tree_head rfl ?_; (show wpQuiet _ _ _ _ (_ :: _) _; go_big_quiet_step (fail)); refine wpQuiet_nil ?_)
            refine tree_two rfl rfl ?_ ?_
            · go_wp2_with fail
              refine (HLOW.out _).mono ?_
              rintro ex wx2 ⟨rfl, hbx⟩
              have hzx := hbx.size
              have HN := Lib.hid (HN.out.trans (hbx.mono HN.out.size))
              clear hbx
              go_wp2_with fail
              refine tailL_mk HN.out ?_
              repeat (refine tree_head rfl ?_; (show wpQuiet _ _ _ _ (_ :: _) _; go_big_quiet_step (fail)); refine wpQuiet_nil ?_)
              refine tree_one rfl ?_
              go_wp2_with fail
              obtain ⟨X9, hX9⟩ : ∃ X, X = wx2.heap.size := ⟨_, rfl⟩
              have hNX : w9.heap.size ≤ X9 := by rw [hX9]; exact HN.out.size
              have hx9 : (wx2.alloc (Obj.cells #[.int .i64 0, .int .i64 0] 28)).heap[X9]? = some (.cells #[.int .i64 0, .int .i64 0] 28) := by rw [hX9]; exact heap_alloc_new _ _
              have l9 : X9 < (wx2.alloc (Obj.cells #[.int .i64 0, .int .i64 0] 28)).heap.size := by rw [hX9]; simp
              have hs9 : (wx2.alloc (Obj.cells #[.int .i64 0, .int .i64 0] 28)).heap.size = wx2.heap.size + 1 := by simp
              have hbx : Below wx2.heap.size wx2 (wx2.alloc (Obj.cells #[.int .i64 0, .int .i64 0] 28)) := by (repeat' (first | (with_reducible exact Below.refl _ _) | (with_reducible assumption) | (with_reducible refine Below.drewN ?_ _) | (with_reducible refine Below.alloc ?_ ?_ _) | (with_reducible refine Below.drew ?_) | (with_reducible refine Below.setCell ?_ ?_ _) | (with_reducible refine Below.step (by assumption) ?_ ?_) | (with_reducible exact And.left (by assumption)) | go_size))
              try simp only [← hX9]
              generalize (wx2.alloc (Obj.cells #[.int .i64 0, .int .i64 0] 28)) = wx3 at *
              have HX9 := Lib.hid (And.intro hX9 hs9)
              have HN := Lib.hid (HN.out.trans (hbx.mono HN.out.size))
              clear hbx hX9 hs9
              refine tailL_mk HN.out ?_
              repeat (refine tree_head rfl ?_; (show wpQuiet _ _ _ _ (_ :: _) _; go_big_quiet_step (fail)); refine wpQuiet_nil ?_)
              refine tree_one rfl ?_
              have c90 := cell_of_row _ _ 0 _ _ _ hx9
              have f90 := frozen_of_row _ _ 0 _ _ hx9
              have c91 := cell_of_row _ _ 1 _ _ _ hx9
              have f91 := frozen_of_row _ _ 1 _ _ hx9
              simp only [List.getElem?_toArray, List.getElem?_cons_zero, List.getElem?_cons_succ] at c90 c91
              go_wp2_with fail
              have HN := Lib.hid (show Below w9.heap.size w9 ((wx3.setCell ⟨X9, 0, none⟩ (.int .i64 P)).setCell ⟨X9, 1, none⟩ (.int .i64 Q)) from Below.setCell (Below.setCell (HN.out) hNX _) hNX _)
              have hx9 : ((wx3.setCell ⟨X9, 0, none⟩ (.int .i64 P)).setCell ⟨X9, 1, none⟩ (.int .i64 Q)).heap[X9]? = some (.cells #[.int .i64 P, .int .i64 Q] 28) := blk_set (blk_set (hx9) 0 (.int .i64 P)) 1 (.int .i64 Q)
              refine tailL_mk HN.out ?_
              repeat (refine tree_head rfl ?_; (show wpQuiet _ _ _ _ (_ :: _) _; go_big_quiet_step (fail)); refine wpQuiet_nil ?_)
              refine tree_done ?_
              go_wp2_with fail
              go_meet
              case rel => exact ⟨X9, rfl, by go_simp, by go_simp, by simpa using l9, HN⟩
            · go_wp2_with fail
              obtain ⟨X9, hX9⟩ : ∃ X, X = w9.heap.size := ⟨_, rfl⟩
              have hNX : w9.heap.size ≤ X9 := by rw [hX9]; exact HN.out.size
              have hx9 : (w9.alloc (Obj.cells #[.int .i64 0, .int .i64 0] 28)).drew.heap[X9]? = some (.cells #[.int .i64 0, .int .i64 0] 28) := by rw [hX9]; exact heap_alloc_new _ _
              have l9 : X9 < (w9.alloc (Obj.cells #[.int .i64 0, .int .i64 0] 28)).drew.heap.size := by rw [hX9]; simp
              have hs9 : (w9.alloc (Obj.cells #[.int .i64 0, .int .i64 0] 28)).drew.heap.size = w9.heap.size + 1 := by simp
              have hbx : Below w9.heap.size w9 (w9.alloc (Obj.cells #[.int .i64 0, .int .i64 0] 28)).drew := by (repeat' (first | (with_reducible exact Below.refl _ _) | (with_reducible assumption) | (with_reducible refine Below.drewN ?_ _) | (with_reducible refine Below.alloc ?_ ?_ _) | (with_reducible refine Below.drew ?_) | (with_reducible refine Below.setCell ?_ ?_ _) | (with_reducible refine Below.step (by assumption) ?_ ?_) | (with_reducible exact And.left (by assumption)) | go_size))
              try simp only [← hX9]
              generalize (w9.alloc (Obj.cells #[.int .i64 0, .int .i64 0] 28)).drew = wx5 at *
              have HX9 := Lib.hid (And.intro hX9 hs9)
              have HN := Lib.hid hbx
              clear hbx hX9 hs9
              refine tailL_mk HN.out ?_
              repeat (refine tree_head rfl ?_; (show wpQuiet _ _ _ _ (_ :: _) _; go_big_quiet_step (fail)); refine wpQuiet_nil ?_)
              refine tree_one rfl ?_
              go_wp2_with fail
              refine (HLOW.out _).mono ?_
              rintro ex wx6 ⟨rfl, hbx⟩
              have hzx := hbx.size
              have HN := Lib.hid (HN.out.trans (hbx.mono HN.out.size))
              have hx9 := (hbx.block X9 l9).trans hx9
              have l9 := Nat.lt_of_lt_of_le l9 hbx.size
              clear hbx
              go_wp2_with fail
              refine tailL_mk HN.out ?_
              repeat (refine tree_head rfl ?_; (show wpQuiet _ _ _ _ (_ :: _) _; go_big_quiet_step (fail)); refine wpQuiet_nil ?_)
              refine tree_one rfl ?_
              have c90 := cell_of_row _ _ 0 _ _ _ hx9
              have f90 := frozen_of_row _ _ 0 _ _ hx9
              have c91 := cell_of_row _ _ 1 _ _ _ hx9
              have f91 := frozen_of_row _ _ 1 _ _ hx9
              simp only [List.getElem?_toArray, List.getElem?_cons_zero, List.getElem?_cons_succ] at c90 c91
              go_wp2_with fail
              have HN := Lib.hid (show Below w9.heap.size w9 ((wx6.setCell ⟨X9, 0, none⟩ (.int .i64 P)).setCell ⟨X9, 1, none⟩ (.int .i64 Q)) from Below.setCell (Below.setCell (HN.out) hNX _) hNX _)
              have hx9 : ((wx6.setCell ⟨X9, 0, none⟩ (.int .i64 P)).setCell ⟨X9, 1, none⟩ (.int .i64 Q)).heap[X9]? = some (.cells #[.int .i64 P, .int .i64 Q] 28) := blk_set (blk_set (hx9) 0 (.int .i64 P)) 1 (.int .i64 Q)
              refine tailL_mk HN.out ?_
              repeat (refine tree_head rfl ?_; (show wpQuiet _ _ _ _ (_ :: _) _; go_big_quiet_step (fail)); refine wpQuiet_nil ?_)
              refine tree_done ?_
              go_wp2_with fail
              go_meet
              case rel => exact ⟨X9, rfl, by go_simp, by go_simp, by simpa using l9, HN⟩
          · go_wp2_with fail
            obtain ⟨X9, hX9⟩ : ∃ X, X = w9.heap.size := ⟨_, rfl⟩
            have hNX : w9.heap.size ≤ X9 := by rw [hX9]; exact HN.out.size
            have hx9 : (w9.alloc (Obj.cells #[.int .i64 0, .int .i64 0] 28)).drew.heap[X9]? = some (.cells #[.int .i64 0, .int .i64 0] 28) := by rw [hX9]; exact heap_alloc_new _ _
            have l9 : X9 < (w9.alloc (Obj.cells #[.int .i64 0, .int .i64 0] 28)).drew.heap.size := by rw [hX9]; simp
            have hs9 : (w9.alloc (Obj.cells #[.int .i64 0, .int .i64 0] 28)).drew.heap.size = w9.heap.size + 1 := by simp
            have hbx : Below w9.heap.size w9 (w9.alloc (Obj.cells #[.int .i64 0, .int .i64 0] 28)).drew := by (repeat' (first | (with_reducible exact Below.refl _ _) | (with_reducible assumption) | (with_reducible refine Below.drewN ?_ _) | (with_reducible refine Below.alloc ?_ ?_ _) | (with_reducible refine Below.drew ?_) | (with_reducible refine Below.setCell ?_ ?_ _) | (with_reducible refine Below.step (by assumption) ?_ ?_) | (with_reducible exact And.left (by assumption)) | go_size))
            try simp only [← hX9]
            generalize (w9.alloc (Obj.cells #[.int .i64 0, .int .i64 0] 28)).drew = wx8 at *
            have HX9 := Lib.hid (And.intro hX9 hs9)
            have HN := Lib.hid hbx
            clear hbx hX9 hs9
            refine tailL_mk HN.out ?_
            repeat (refine tree_head rfl ?_; (show wpQuiet _ _ _ _ (_ :: _) _; go_big_quiet_step (fail)); refine wpQuiet_nil ?_)
            refine tree_one rfl ?_
            go_wp2_with fail
            refine (size_any _ _ (by omega) (by omega)).mono ?_
            rintro ex wsame ⟨rfl, rfl⟩
            go_wp2_with fail
            refine tailL_mk HN.out ?_
            repeat (refine tree_head rfl ?_; (show wpQuiet _ _ _ _ (_ :: _) _; go_big_quiet_step (fail)); refine wpQuiet_nil ?_)
            refine tree_one rfl ?_
            go_wp2_with fail
            refine (HLOW.out _).mono ?_
            rintro ex wx10 ⟨rfl, hbx⟩
            have hzx := hbx.size
            have HN := Lib.hid (HN.out.trans (hbx.mono HN.out.size))
            have hx9 := (hbx.block X9 l9).trans hx9
            have l9 := Nat.lt_of_lt_of_le l9 hbx.size
            clear hbx
            go_wp2_with fail
            refine tailL_mk HN.out ?_
            repeat (refine tree_head rfl ?_; (show wpQuiet _ _ _ _ (_ :: _) _; go_big_quiet_step (fail)); refine wpQuiet_nil ?_)
            refine tree_one rfl ?_
            have c90 := cell_of_row _ _ 0 _ _ _ hx9
            have f90 := frozen_of_row _ _ 0 _ _ hx9
            have c91 := cell_of_row _ _ 1 _ _ _ hx9
            have f91 := frozen_of_row _ _ 1 _ _ hx9
            simp only [List.getElem?_toArray, List.getElem?_cons_zero, List.getElem?_cons_succ] at c90 c91
            go_wp2_with fail
            have HN := Lib.hid (show Below w9.heap.size w9 ((wx10.setCell ⟨X9, 0, none⟩ (.int .i64 P)).setCell ⟨X9, 1, none⟩ (.int .i64 Q)) from Below.setCell (Below.setCell (HN.out) hNX _) hNX _)
            have hx9 : ((wx10.setCell ⟨X9, 0, none⟩ (.int .i64 P)).setCell ⟨X9, 1, none⟩ (.int .i64 Q)).heap[X9]? = some (.cells #[.int .i64 P, .int .i64 Q] 28) := blk_set (blk_set (hx9) 0 (.int .i64 P)) 1 (.int .i64 Q)
            refine tailL_mk HN.out ?_
            repeat (refine tree_head rfl ?_; (show wpQuiet _ _ _ _ (_ :: _) _; go_big_quiet_step (fail)); refine wpQuiet_nil ?_)
            refine tree_done ?_
            go_wp2_with fail
            go_meet
            case rel => exact ⟨X9, rfl, by go_simp, by go_simp, by simpa using l9, HN⟩
        case rest =>
          obtain ⟨wa, rfl⟩ : ∃ w', w' = wc := ⟨wc, rfl⟩
          obtain ⟨X, rfl, x0c, x1c, lX, hN⟩ := hcut
          have hba := hN.out
          have hza := hba.size
          have HOa := Lib.hid (owns_below HO9.out hba (fun q hq => (HO9.out.lt q hq).2))
          have HBa := Lib.hid (HB9.out.trans (hba.mono HB9.out.size))
          clear hba hN y0' y1' cu0 cu1 HO9 HB9 HLOW
          go_wp2_with fail
          refine (HSM.out _).mono ?_
          rintro e10 wb ⟨rfl, hbb⟩
          have hzb := hbb.size
          have x0b : wb.cell? ⟨X, 0, none⟩ = some (.int .i64 P) := by { rw [cellB hbb _ _ (by first | (simp; done) | (simp; omega) | omega)]; all_goals (first | assumption | go_simp) }; have x1b : wb.cell? ⟨X, 1, none⟩ = some (.int .i64 Q) := by { rw [cellB hbb _ _ (by first | (simp; done) | (simp; omega) | omega)]; all_goals (first | assumption | go_simp) }; have lXb : X < wb.heap.size := by { omega }
          have HOb := Lib.hid (owns_below HOa.out hbb (fun q hq => (HOa.out.lt q hq).2))
          have HBb := Lib.hid (HBa.out.trans (hbb.mono HBa.out.size))
          clear hbb HOa HBa x0c x1c lX
          cases hsm : smallF (P, Q)
          · have HBD := Lib.hid (envL_bad (s := s) (e := e) (t := t) (L := L) (g := g) hlt (by rw [HEA.out]; exact hsm))
            clear hsm
            go_wp2
            go_ret2
            exact ⟨HB6.out.trans (HBb.out.mono HB6.out.size), .inl ⟨HBD.out, rfl⟩⟩
          · have HSN := Lib.hid (show ∀ j, j < k + 1 → smallF (envAt s e t n L g j) = true from fun j hj => by
              by_cases h : j = k
              · rw [h, HEA.out]; exact hsm
              · exact HS7.out j (by omega))
            have HTK := Lib.hid (show pcells ((envL s e t n L g).take (k + 1)) = pcells ((envL s e t n L g).take k) ++ [.int .i64 P, .int .i64 Q] by rw [HES.out, pcells_append]; rfl)
            clear hsm
            go_wp2_with (at_builtin; refine wpList_append_sl _ rfl _ _ 33 rfl w6.heap.size 28 _ 2 16 Tryz.underlying33 infoFrac rfl (by omega) (.slice ao k co) k _ rfl (HOb.out.alloc _) _ 1 1 [.int .i64 P, .int .i64 Q] rfl (SlR.lit _ _ _ _ _ 1 2 (by rfl) (by simp) rfl (by omega)) (by simp [Value.oneCell']) (by omega) (by omega) (by have := HBb.out.size; simp; omega) ?_)
            intro v8 wd hown8 _ hb8
            obtain ⟨a8, c8, rfl, _, _⟩ := owns_slice hown8
            have HO8 := Lib.hid (show wd.ownsRow w6.heap.size 28 2 (.slice a8 (k + 1) c8) (k + 1) (pcells ((envL s e t n L g).take (k + 1))) by rw [HTK.out]; exact hown8)
            have HB8 := Lib.hid (show Below w6.heap.size w6 wd from Below.trans (HBb.out.alloc HBb.out.size _) hb8)
            clear hown8 hb8 x0b x1b
            go_wp2_with fail
            go_roundw
            case rel => exact ⟨k + 1, a8, c8, by go_num, by omega, rfl, HO8, HSN, HB8⟩
            case measure => simp [intOf]; omega
      · obtain rfl : k = n + 1 := by omega
        have HP := Lib.hid (show PairsR w7 ao (n + 1) (envL s e t n L g) by
          have := SlR.of_owns HO7.out
          rw [List.take_of_length_le (by rw [envL_len]; omega)] at this
          exact this)
        have HGF := Lib.hid (envL_good HGD.out HS7.out)
        have HBz := Lib.hid (HB6.out.trans (HB7.out.mono HB6.out.size))
        go_wp2
        go_ret2
        exact ⟨HBz.out, .inr ⟨HGF.out, ao, co, rfl, HP.out⟩⟩
end Go.Proofs.YtbjgklifmillgaaGreat
