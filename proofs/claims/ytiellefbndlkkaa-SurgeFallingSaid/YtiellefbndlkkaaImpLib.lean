/- Impulses: copies, the reference's checks, equality. -/
import Derived.Test.YtiellefbndlkkaaValueAt
import Derived.Test.YtiellefbndlkkaaRef1
namespace Go.Proofs.Ytiellefbndlkkaa
open Go.RowKit
set_option linter.unusedVariables false

theorem infoPoint : (Try.prog.info? 126).map (fun i => (i.zero, i.size, i.bytes)) = some (some (.agg #[.int .i64 0, .int .i64 0]), 2, 16) := by kernel_rfl
theorem sfloor_pos (x y : Int) (w : World) (hx0 : -9000000000000000000 ≤ x) (hx1 : x ≤ 9000000000000000000) (hy : 0 < y) (hy1 : y ≤ 9000000000000000000) :
    Calls Try.prog 127 #[.int .i64 x, .int .i64 y] w fun e' w' => e' = .returned (.int .i64 (x / y)) ∧ w = w' := by
  have hyn : (y == 0) = false := by simp; omega
  have hq := tdiv_bd x y 9000000000000000000 (by omega) (by omega)
  by_cases h0 : 0 ≤ x
  · have e1 : 0 ≤ x / y := Int.ediv_nonneg h0 (by omega)
    have e2 : x.tdiv y = x / y := Int.tdiv_eq_ediv_of_nonneg h0
    have e4 : x.tmod y = x % y := Int.tmod_eq_emod_of_nonneg h0
    have e3 : 0 ≤ x % y := Int.emod_nonneg _ (by omega)
    have ht' : decide (x.tmod y < 0) = false := by simp; omega
    have HE := Lib.hid e2
    clear e2 e4
    go_enter Try.func127, Try.ntmps127
    go_wp2
    go_ret
    exact ⟨ret_int HE.out, rfl⟩
  · have h0' : x < 0 := by omega
    have hE := Lib.hid (Int.tdiv_eq_ediv (a := x) (b := y))
    have hM := Lib.hid (Int.tmod_eq_emod (a := x) (b := y))
    by_cases hd : x % y = 0
    · have ht : x.tmod y = 0 := by rw [hM.out]; simp [Int.dvd_of_emod_eq_zero hd]; exact hd
      have ht' : decide (x.tmod y < 0) = false := by simp [ht]
      have HT := Lib.hid ht
      clear ht
      go_enter Try.func127, Try.ntmps127
      go_wp2
      go_ret
      exact ⟨ret_int (by rw [hE.out]; simp [Int.dvd_of_emod_eq_zero hd]), rfl⟩
    · have hnd : ¬ (0 ≤ x ∨ y ∣ x) := by
        rintro (h | h)
        · omega
        · exact hd (Int.emod_eq_zero_of_dvd h)
      have ht : x.tmod y < 0 := by
        rw [hM.out, if_neg hnd]
        have := Int.emod_lt_of_pos x hy
        omega
      have he : x.tdiv y - 1 = x / y := by
        rw [hE.out, if_neg hnd]
        have : y.sign = 1 := Int.sign_eq_one_of_pos hy
        omega
      have HE := Lib.hid he
      clear he
      go_enter Try.func127, Try.ntmps127
      go_wp2
      go_ret
      exact ⟨ret_int HE.out, rfl⟩
theorem isTail_any (n : Int) (w : World) : Calls Try.prog 126 #[.int .i64 n] w fun e' w' => e' = .returned (.bool (wi n 1 100000)) ∧ w = w' := by
  go_enter Try.func126, Try.ntmps126
  go_wp2_with (go_at_call 88; refine (within_any _ _ _ _).mono ?_; rintro e w' ⟨rfl, rfl⟩)
  go_ret
  exact ⟨rfl, rfl⟩
theorem fewPoints_any (a : Option Addr) (n c : Nat) (w : World) (hn : n ≤ 9223372036854775807) :
    Calls Try.prog 49 #[.agg #[.slice a n c]] w fun e' w' => e' = .returned (.bool (decide ((n : Int) ≤ 14))) ∧ Below w.heap.size w w' := by
  go_enter Try.func49, Try.ntmps49
  go_wp2
  go_ret
  exact ⟨rfl, by (repeat' (first | (with_reducible exact Below.refl _ _) | (with_reducible assumption) | (with_reducible refine Below.drewN ?_ _) | (with_reducible refine Below.alloc ?_ ?_ _) | (with_reducible refine Below.drew ?_) | (with_reducible refine Below.setCell ?_ ?_ _) | (with_reducible refine Below.step (by assumption) ?_ ?_) | (with_reducible exact And.left (by assumption)) | go_size))⟩
set_option maxRecDepth 100000 in
theorem copyImpulse_any (l : List (Int × Int)) (a : Option Addr) (n c : Nat) (w : World) (h : PairsR w a n l) (hn : n ≤ 100000) :
    Calls Try.prog 51 #[.agg #[.slice a n c]] w fun e' w' => ∃ a' c', e' = .returned (.agg #[.slice a' n c']) ∧ Below w.heap.size w w' ∧ PairsR w' a' n l := by
  have H := Lib.hid h
  clear h
  go_enter Try.func51, Try.ntmps51
  go_wp2_with (at_builtin; refine wpList_append_sl _ rfl _ _ 85 rfl (w.heap.size + 1 + 1) 126 _ 2 16 Try.underlying85 infoPoint rfl (by omega) (.slice (some ⟨w.heap.size + 1 + 1, 0, none⟩) 0 0) 0 [] rfl (owns_lit (cs := #[]) (by simp) (Nat.le_refl _) (by omega) rfl) a n c (pcells l) rfl (SlR.below H.out (by (repeat' (first | (with_reducible exact Below.refl _ _) | (with_reducible assumption) | (with_reducible refine Below.drewN ?_ _) | (with_reducible refine Below.alloc ?_ ?_ _) | (with_reducible refine Below.drew ?_) | (with_reducible refine Below.setCell ?_ ?_ _) | (with_reducible refine Below.step (by assumption) ?_ ?_) | (with_reducible exact And.left (by assumption)) | go_size)))) (pcells_one l) (by omega) (by omega) (by simp) ?_)
  intro v5 w5 hown _ hb5
  obtain ⟨a5, c5, rfl, _, _⟩ := owns_slice hown
  have hb6 : Below (w.heap.size + 1 + 1) ((w.alloc (Obj.cells #[.slice a n c] 87)).alloc (Obj.cells #[.slice none 0 0] 87)) w5 := Below.trans (by (repeat' (first | (with_reducible exact Below.refl _ _) | (with_reducible assumption) | (with_reducible refine Below.drewN ?_ _) | (with_reducible refine Below.alloc ?_ ?_ _) | (with_reducible refine Below.drew ?_) | (with_reducible refine Below.setCell ?_ ?_ _) | (with_reducible refine Below.step (by assumption) ?_ ?_) | (with_reducible exact And.left (by assumption)) | go_size))) hb5
  have hz5 := hb6.size
  simp only [World.size_alloc] at hz5
  have p0 : w5.cell? ⟨w.heap.size + 1, 0, none⟩ = some (.slice none 0 0) := by { rw [cellB hb6 _ _ (by first | (simp; done) | (simp; omega) | omega)]; all_goals (first | assumption | go_simp) }; have f0 : w5.frozen? ⟨w.heap.size + 1, 0, none⟩ = false := by { rw [frozenB hb6 _ _ (by first | (simp; done) | (simp; omega) | omega)]; all_goals (first | assumption | go_simp) }
  have HB := Lib.hid (show Below w.heap.size w w5 from Below.trans (b := (w.alloc (Obj.cells #[.slice a n c] 87)).alloc (Obj.cells #[.slice none 0 0] 87)) (by (repeat' (first | (with_reducible exact Below.refl _ _) | (with_reducible assumption) | (with_reducible refine Below.drewN ?_ _) | (with_reducible refine Below.alloc ?_ ?_ _) | (with_reducible refine Below.drew ?_) | (with_reducible refine Below.setCell ?_ ?_ _) | (with_reducible refine Below.step (by assumption) ?_ ?_) | (with_reducible exact And.left (by assumption)) | go_size))) (hb6.mono (by omega)))
  have HO := Lib.hid hown
  have l5 : w.heap.size + 1 < w5.heap.size := by omega
  clear hown hb5 hb6
  go_wp2
  refine bodyPost_ret (v := .agg #[.slice a5 n c5]) (by simp [results, Try.results51, go_sem, p0]) rfl ⟨a5, c5, by rw [show n = 0 + n by omega], ?_, ?_⟩
  · have := HB.out
    (repeat' (first | (with_reducible exact Below.refl _ _) | (with_reducible assumption) | (with_reducible refine Below.drewN ?_ _) | (with_reducible refine Below.alloc ?_ ?_ _) | (with_reducible refine Below.drew ?_) | (with_reducible refine Below.setCell ?_ ?_ _) | (with_reducible refine Below.step (by assumption) ?_ ?_) | (with_reducible exact And.left (by assumption)) | go_size))
  · have h := SlR.of_owns (ownsRow_setCell_below HO.out (a := ⟨w.heap.size + 1, 0, none⟩) (by simp) (.slice a5 (0 + n) c5))
    simp only [Nat.zero_add] at h
    exact h
set_option maxHeartbeats 1000000 in
set_option maxRecDepth 100000 in
theorem rcheckImpulse_any (l : List (Int × Int)) (a : Option Addr) (n c : Nat) (w : World) (hl : PairsR w a n l) :
    Calls Try.prog 54 #[.agg #[.slice a n c]] w fun e' w' => e' = .returned (.tuple #[.int .i64 (impErr l).1, .int .i64 (impErr l).2]) ∧ Below w.heap.size w w' := by
  have hn := hl.small
  have hlen := hl.len
  have HI := Lib.hid (show impErr l = if 2 ≤ n then (if n ≤ 12 then impScan l n 0 else (0, 8)) else (0, 10) by rw [← hlen]; rfl)
  by_cases h2 : 2 ≤ n
  · by_cases h12 : n ≤ 12
    · obtain ⟨b0, o0, rfl, hb0, hc0⟩ := hl.addr (by omega)
      have HC := Lib.hid hc0
      have HR := Lib.hid (show impErr l = impScan l n 0 by rw [HI.out, if_pos h2, if_pos h12])
      clear hl hc0 HI hlen
      have i0 : ¬ ((n : Int) < 2) := by omega
      have i1 : ¬ ((n : Int) > 12) := by omega
      go_enter Try.func54, Try.ntmps54
      go_wp2
      generalize hW : w.alloc (Obj.cells #[.slice (some ⟨b0, o0, none⟩) n c] 87) = w6
      have hb6 : Below w.heap.size w w6 := by rw [← hW]; (repeat' (first | (with_reducible exact Below.refl _ _) | (with_reducible assumption) | (with_reducible refine Below.drewN ?_ _) | (with_reducible refine Below.alloc ?_ ?_ _) | (with_reducible refine Below.drew ?_) | (with_reducible refine Below.setCell ?_ ?_ _) | (with_reducible refine Below.step (by assumption) ?_ ?_) | (with_reducible exact And.left (by assumption)) | go_size))
      have q0 : w6.cell? ⟨w.heap.size, 0, none⟩ = some (.slice (some ⟨b0, o0, none⟩) n c) := by { rw [← hW]; clear hW; go_simp }
      have l0 : w.heap.size < w6.heap.size := by rw [← hW]; simp
      have HB6 := Lib.hid hb6
      clear hW hb6
      go_loopw [4] (fun i wr => ∃ k : Nat, i = .int .i64 k ∧ k ≤ n ∧ Hid (impScan l (n - k) k = impScan l n 0) ∧ Hid (Below w6.heap.size w6 wr)) (fun i _ => n - (intOf i).toNat)
      case atStart => exact ⟨0, rfl, Nat.zero_le _, rfl, Lib.hid (Below.refl _ _)⟩
      case round =>
        obtain ⟨k, rfl, hk, hF, hB⟩ := hrel
        have hbr := hB.out
        have hzr := hbr.size
        have q0' : wr.cell? ⟨w.heap.size, 0, none⟩ = some (.slice (some ⟨b0, o0, none⟩) n c) := by { rw [cellB hbr _ _ (by first | (simp; done) | (simp; omega) | omega)]; all_goals (first | assumption | go_simp) }; have l0' : w.heap.size < wr.heap.size := by { omega }
        rcases Nat.lt_or_ge k n with hlt | hge
        · have hbw := HB6.out.trans (hbr.mono HB6.out.size)
          obtain ⟨x, hx⟩ : ∃ x, x = (gp l k).1 := ⟨_, rfl⟩
          obtain ⟨y, hy⟩ : ∃ y, y = (gp l k).2 := ⟨_, rfl⟩
          have cx : wr.cell? ⟨b0, o0 + k * 2, none⟩ = some (.int .i64 x) := by rw [cellB hbw _ _ hb0, hx]; exact (HC.out k hlt).1
          have cy : wr.cell? ⟨b0, o0 + k * 2 + 1, none⟩ = some (.int .i64 y) := by rw [cellB hbw _ _ hb0, hy]; exact (HC.out k hlt).2
          have hbr0 : b0 < wr.heap.size := by omega
          obtain ⟨m, hm⟩ : ∃ m, n - k = m + 1 := ⟨n - k - 1, by omega⟩
          have hF' := hF.out
          rw [hm, impScan] at hF'
          obtain ⟨g1, hg1⟩ : ∃ g1, g1 = wi x 0 1000000 := ⟨_, rfl⟩
          obtain ⟨g2, hg2⟩ : ∃ g2, g2 = wi y (-1000000) 1000000 := ⟨_, rfl⟩
          have hE2 : ptErr l k = firstErr [unl (g1 && g2) 2, unl (ptLater l k) 9] := by rw [hg1, hg2, hx, hy]; rfl
          rw [hE2] at hF'
          have HG1 := Lib.hid hg1
          have HG2 := Lib.hid hg2
          have HM := Lib.hid hm
          have HX := Lib.hid hx
          have i2 : (0 : Int) ≤ (k : Int) := by omega
          have i3 : (k : Int) < (n : Int) := by omega
          clear hy hm hE2 hg1 hg2 hbr hbw hx hF
          have HBx := Lib.hid (show Below w6.heap.size w6 _ from Below.alloc hB.out hzr (Obj.cells #[Value.int IntKind.i64 x, Value.int IntKind.i64 y] 126))
          rcases k with _ | j
          · simp only [Nat.zero_mul, Nat.add_zero] at cx cy
            go_wp2_with fail
            refine (bwithin_any _ _ _ _).mono ?_
            rintro e7 w7 ⟨rfl, rfl⟩
            rw [← HG1.out]
            cases g1
            · have HF := Lib.hid hF'
              clear hF'
              have HE := Lib.hid (show impErr l = (((0 : Nat) : Int), 2) by rw [HR.out, ← HF.out]; rfl)
              go_wp2
              go_ret2
              refine ⟨?_, HB6.out.trans ((HBx.out).mono HB6.out.size)⟩
              rw [HE.out]
              rfl
            · go_wp2_with fail
              refine (bwithin_any _ _ _ _).mono ?_
              rintro e7 w7 ⟨rfl, rfl⟩
              rw [← HG2.out]
              cases g2
              · have HF := Lib.hid hF'
                clear hF'
                have HE := Lib.hid (show impErr l = (((0 : Nat) : Int), 2) by rw [HR.out, ← HF.out]; rfl)
                go_wp2
                go_ret2
                refine ⟨?_, HB6.out.trans ((HBx.out).mono HB6.out.size)⟩
                rw [HE.out]
                rfl
              · have HF := Lib.hid hF'
                clear hF'
                go_wp2
                go_quiet (fail)
                have HBx := Lib.hid (HBx.out.drewN nq)
                go_wp2
                go_roundw
                case rel => exact ⟨0 + 1, by go_num, by omega, Lib.hid (by rw [← HF.out]; show impScan l (n - (0 + 1)) (0 + 1) = impScan l m (0 + 1); rw [show n - (0 + 1) = m by have := HM.out; omega]), HBx⟩
                case measure => simp [intOf]; omega
          · have hk0 : decide ((j : Int) + 1 > 0) = true := by rw [decide_eq_true_eq]; omega
            obtain ⟨z, hz⟩ : ∃ z, z = (gp l j).1 := ⟨_, rfl⟩
            have cz : wr.cell? ⟨b0, o0 + j * 2, none⟩ = some (.int .i64 z) := by rw [cellB (HB6.out.trans (hB.out.mono HB6.out.size)) _ _ hb0, hz]; exact (HC.out j (by omega)).1
            have hgt : ptLater l (j + 1) = !decide (x ≤ z) := by
              rw [HX.out, hz]
              simp only [ptLater, Nat.add_sub_cancel]
              generalize (gp l (j + 1)).1 = X
              generalize (gp l j).1 = Z
              by_cases h : X ≤ Z
              · rw [decide_eq_false (show ¬ (X > Z) by omega), decide_eq_true h]; simp
              · rw [decide_eq_true (show X > Z by omega), decide_eq_false h]; simp
            rw [hgt] at hF'
            clear hz hgt
            go_wp2_with fail
            refine (bwithin_any _ _ _ _).mono ?_
            rintro e7 w7 ⟨rfl, rfl⟩
            rw [← HG1.out]
            cases g1
            · have HF := Lib.hid hF'
              clear hF'
              have HE := Lib.hid (show impErr l = (((j + 1 : Nat) : Int), 2) by rw [HR.out, ← HF.out]; rfl)
              go_wp2
              go_ret2
              refine ⟨?_, HB6.out.trans ((HBx.out).mono HB6.out.size)⟩
              rw [HE.out]
              rfl
            · go_wp2_with fail
              refine (bwithin_any _ _ _ _).mono ?_
              rintro e7 w7 ⟨rfl, rfl⟩
              rw [← HG2.out]
              cases g2
              · have HF := Lib.hid hF'
                clear hF'
                have HE := Lib.hid (show impErr l = (((j + 1 : Nat) : Int), 2) by rw [HR.out, ← HF.out]; rfl)
                go_wp2
                go_ret2
                refine ⟨?_, HB6.out.trans ((HBx.out).mono HB6.out.size)⟩
                rw [HE.out]
                rfl
              · by_cases hxz : x ≤ z
                · have HF := Lib.hid hF'
                  have HE := Lib.hid (show impErr l = (((j + 1 : Nat) : Int), 9) by
                    rw [HR.out, ← HF.out, show decide (x ≤ z) = true by simpa using hxz]; rfl)
                  clear hF'
                  go_wp2
                  go_quiet (fail)
                  go_wp2
                  go_ret2
                  refine ⟨?_, HB6.out.trans ((HBx.out.drewN nq).mono HB6.out.size)⟩
                  rw [HE.out]
                  rfl
                · have hxz' : decide (x ≤ z) = false := by simpa using hxz
                  rw [hxz'] at hF'
                  have HF := Lib.hid hF'
                  clear hF'
                  go_wp2
                  go_quiet (fail)
                  have HBx := Lib.hid (HBx.out.drewN nq)
                  go_wp2
                  go_roundw
                  case rel => exact ⟨j + 1 + 1, by go_num, by omega, Lib.hid (by rw [← HF.out]; show impScan l (n - (j + 1 + 1)) (j + 1 + 1) = impScan l m (j + 1 + 1); rw [show n - (j + 1 + 1) = m by have := HM.out; omega]), HBx⟩
                  case measure => simp [intOf]; omega
        · obtain rfl : k = n := by omega
          have HBR := Lib.hid (HB6.out.trans (hB.out.mono HB6.out.size))
          have HN := Lib.hid (show impErr l = (0, 0) by rw [HR.out, ← hF.out, Nat.sub_self]; rfl)
          go_wp2
          go_ret2
          refine ⟨?_, HBR.out⟩
          rw [HN.out]
          rfl
    · have i0 : ¬ ((n : Int) < 2) := by omega
      have i1 : (n : Int) > 12 := by omega
      have HR := Lib.hid (show impErr l = (0, 8) by rw [HI.out, if_pos h2, if_neg h12])
      clear hl
      go_enter Try.func54, Try.ntmps54
      go_wp2
      go_ret2
      refine ⟨?_, by (repeat' (first | (with_reducible exact Below.refl _ _) | (with_reducible assumption) | (with_reducible refine Below.drewN ?_ _) | (with_reducible refine Below.alloc ?_ ?_ _) | (with_reducible refine Below.drew ?_) | (with_reducible refine Below.setCell ?_ ?_ _) | (with_reducible refine Below.step (by assumption) ?_ ?_) | (with_reducible exact And.left (by assumption)) | go_size))⟩
      rw [HR.out]
      rfl
  · have i0 : (n : Int) < 2 := by omega
    have HR := Lib.hid (show impErr l = (0, 10) by rw [HI.out, if_neg h2])
    clear hl
    go_enter Try.func54, Try.ntmps54
    go_wp2
    go_ret2
    refine ⟨?_, by (repeat' (first | (with_reducible exact Below.refl _ _) | (with_reducible assumption) | (with_reducible refine Below.drewN ?_ _) | (with_reducible refine Below.alloc ?_ ?_ _) | (with_reducible refine Below.drew ?_) | (with_reducible refine Below.setCell ?_ ?_ _) | (with_reducible refine Below.step (by assumption) ?_ ?_) | (with_reducible exact And.left (by assumption)) | go_size))⟩
    rw [HR.out]
    rfl
theorem impulseErr_any (l : List (Int × Int)) (a : Option Addr) (n c : Nat) (w : World) (hl : PairsR w a n l) :
    Calls Try.prog 70 #[.agg #[.slice a n c]] w fun e' w' => e' = .returned (.int .i64 (impErr l).2) ∧ Below w.heap.size w w' := by
  have HC := Lib.hid (fun (w' : World) (hb : Below w.heap.size w w') => rcheckImpulse_any l a n c w' (hl.below hb))
  clear hl
  generalize impErr l = E at HC
  obtain ⟨i, E⟩ := E
  go_enter Try.func70, Try.ntmps70
  go_wp2_with fail
  refine (HC.out _ (by (repeat' (first | (with_reducible exact Below.refl _ _) | (with_reducible assumption) | (with_reducible refine Below.drewN ?_ _) | (with_reducible refine Below.alloc ?_ ?_ _) | (with_reducible refine Below.drew ?_) | (with_reducible refine Below.setCell ?_ ?_ _) | (with_reducible refine Below.step (by assumption) ?_ ?_) | (with_reducible exact And.left (by assumption)) | go_size)))).mono ?_
  rintro e5 w5 ⟨rfl, hb5⟩
  have hz5 := hb5.size
  simp only [World.size_alloc] at hz5
  go_wp2
  go_ret
  exact ⟨rfl, by (repeat' (first | (with_reducible exact Below.refl _ _) | (with_reducible assumption) | (with_reducible refine Below.drewN ?_ _) | (with_reducible refine Below.alloc ?_ ?_ _) | (with_reducible refine Below.drew ?_) | (with_reducible refine Below.setCell ?_ ?_ _) | (with_reducible refine Below.step (by assumption) ?_ ?_) | (with_reducible exact And.left (by assumption)) | go_size))⟩
set_option maxRecDepth 100000 in
theorem sameImpulse_any (l1 l2 : List (Int × Int)) (a1 a2 : Option Addr) (n1 c1 n2 c2 : Nat) (w : World) (h1 : PairsR w a1 n1 l1) (h2 : PairsR w a2 n2 l2) :
    Calls Try.prog 75 #[.agg #[.slice a1 n1 c1], .agg #[.slice a2 n2 c2]] w fun e' w' => e' = .returned (.bool (decide (l1 = l2))) ∧ Below w.heap.size w w' := by
  have H1 := Lib.hid h1
  have H2 := Lib.hid h2
  have hn1 := h1.small
  have hn2 := h2.small
  clear h1 h2
  by_cases hne : n1 = n2
  · subst hne
    have hbb : ((n1 : Int) != (n1 : Int)) = false := by simp
    go_enter Try.func75, Try.ntmps75
    go_wp2
    generalize hW : (w.alloc (Obj.cells #[.slice a1 n1 c1] 87)).alloc (Obj.cells #[.slice a2 n1 c2] 87) = w5
    have hb5 : Below w.heap.size w w5 := by rw [← hW]; (repeat' (first | (with_reducible exact Below.refl _ _) | (with_reducible assumption) | (with_reducible refine Below.drewN ?_ _) | (with_reducible refine Below.alloc ?_ ?_ _) | (with_reducible refine Below.drew ?_) | (with_reducible refine Below.setCell ?_ ?_ _) | (with_reducible refine Below.step (by assumption) ?_ ?_) | (with_reducible exact And.left (by assumption)) | go_size))
    have q0 : w5.cell? ⟨w.heap.size, 0, none⟩ = some (.slice a1 n1 c1) := by { rw [← hW]; clear hW; go_simp }
    have q1 : w5.cell? ⟨w.heap.size + 1, 0, none⟩ = some (.slice a2 n1 c2) := by { rw [← hW]; clear hW; go_simp }
    have l0 : w.heap.size < w5.heap.size := by rw [← hW]; simp; omega
    have l1' : w.heap.size + 1 < w5.heap.size := by rw [← hW]; simp
    have HB5 := Lib.hid hb5
    clear hW hb5
    go_loopw [5] (fun i wr => ∃ k : Nat, i = .int .i64 k ∧ k ≤ n1 ∧ Hid (decide (l1.drop k = l2.drop k) = decide (l1 = l2)) ∧ ∃ m, wr = w5.drewN m) (fun i _ => n1 - (intOf i).toNat)
    case atStart => exact ⟨0, rfl, Nat.zero_le _, rfl, 0, rfl⟩
    case round =>
      obtain ⟨k, rfl, hk, hF, m, rfl⟩ := hrel
      by_cases hlt : k < n1
      · obtain ⟨b1, o1, rfl, hb1, hc1⟩ := H1.out.addr (by omega)
        obtain ⟨b2, o2, rfl, hb2, hc2⟩ := H2.out.addr (by omega)
        have hck1 := (hc1 k hlt).1
        have hck1' := (hc1 k hlt).2
        have hck2 := (hc2 k hlt).1
        have hck2' := (hc2 k hlt).2
        rw [← cellB HB5.out _ _ hb1] at hck1 hck1'
        rw [← cellB HB5.out _ _ hb2] at hck2 hck2'
        clear hc1 hc2
        have hF' := hF.out
        rw [drop_at l1 k (0, 0) (by rw [H1.out.len]; exact hlt), drop_at l2 k (0, 0) (by rw [H2.out.len]; exact hlt)] at hF'
        obtain ⟨⟨x, y⟩, hx⟩ : ∃ x, x = l1.getD k (0, 0) := ⟨_, rfl⟩
        obtain ⟨⟨x2, y2⟩, hy⟩ : ∃ y, y = l2.getD k (0, 0) := ⟨_, rfl⟩
        rw [← hx] at hck1 hck1' hF'
        rw [← hy] at hck2 hck2' hF'
        have HF := Lib.hid hF'
        have hk0 : (0 : Int) ≤ (k : Int) := by omega
        have hk1 : (k : Int) < (n1 : Int) := by omega
        clear hx hy hF' hF
        by_cases hxy : x = x2
        · subst hxy
          by_cases hyz : y = y2
          · subst hyz
            go_wp2
            refine drew_of_eq 10 (by kernel_rfl) (by kernel_rfl) ?_; simp only [List.take_succ_cons, List.take_zero, List.drop_succ_cons, List.drop_zero]; repeat go_big_quiet_step (fail)
            refine wpQuiet_nil ?_; intro m7
            go_wp2
            go_roundw
            case rel => exact ⟨k + 1, by go_num, by omega, Lib.hid (by simpa using HF.out), _, rfl⟩
            case measure => simp [intOf]; omega
          · have hbx : (y == y2) = false := by simpa using hyz
            go_wp2
            refine drew_of_eq 10 (by kernel_rfl) (by kernel_rfl) ?_; simp only [List.take_succ_cons, List.take_zero, List.drop_succ_cons, List.drop_zero]; repeat go_big_quiet_step (fail)
            refine wpQuiet_nil ?_; intro m7
            go_wp2
            go_ret
            exact ⟨ret_bool (by rw [← HF.out]; simp [hyz]), by have := HB5.out; (repeat' (first | (with_reducible exact Below.refl _ _) | (with_reducible assumption) | (with_reducible refine Below.drewN ?_ _) | (with_reducible refine Below.alloc ?_ ?_ _) | (with_reducible refine Below.drew ?_) | (with_reducible refine Below.setCell ?_ ?_ _) | (with_reducible refine Below.step (by assumption) ?_ ?_) | (with_reducible exact And.left (by assumption)) | go_size))⟩
        · have hbx : (x == x2) = false := by simpa using hxy
          go_wp2
          refine drew_of_eq 10 (by kernel_rfl) (by kernel_rfl) ?_; simp only [List.take_succ_cons, List.take_zero, List.drop_succ_cons, List.drop_zero]; repeat go_big_quiet_step (fail)
          refine wpQuiet_nil ?_; intro m7
          go_wp2
          go_ret
          exact ⟨ret_bool (by rw [← HF.out]; simp [hxy]), by have := HB5.out; (repeat' (first | (with_reducible exact Below.refl _ _) | (with_reducible assumption) | (with_reducible refine Below.drewN ?_ _) | (with_reducible refine Below.alloc ?_ ?_ _) | (with_reducible refine Below.drew ?_) | (with_reducible refine Below.setCell ?_ ?_ _) | (with_reducible refine Below.step (by assumption) ?_ ?_) | (with_reducible exact And.left (by assumption)) | go_size))⟩
      · go_wp2
        go_ret
        exact ⟨ret_bool (by rw [← hF.out, drop_end l1 k (by rw [H1.out.len]; omega), drop_end l2 k (by rw [H2.out.len]; omega)]; rfl), by have := HB5.out; (repeat' (first | (with_reducible exact Below.refl _ _) | (with_reducible assumption) | (with_reducible refine Below.drewN ?_ _) | (with_reducible refine Below.alloc ?_ ?_ _) | (with_reducible refine Below.drew ?_) | (with_reducible refine Below.setCell ?_ ?_ _) | (with_reducible refine Below.step (by assumption) ?_ ?_) | (with_reducible exact And.left (by assumption)) | go_size))⟩
  · have hbb : ((n1 : Int) != (n2 : Int)) = true := by simp; omega
    go_enter Try.func75, Try.ntmps75
    go_wp2
    go_ret
    refine ⟨ret_bool ?_, by (repeat' (first | (with_reducible exact Below.refl _ _) | (with_reducible assumption) | (with_reducible refine Below.drewN ?_ _) | (with_reducible refine Below.alloc ?_ ?_ _) | (with_reducible refine Below.drew ?_) | (with_reducible refine Below.setCell ?_ ?_ _) | (with_reducible refine Below.step (by assumption) ?_ ?_) | (with_reducible exact And.left (by assumption)) | go_size))⟩
    have : ¬ l1 = l2 := by intro h; apply hne; rw [← H1.out.len, ← H2.out.len, h]
    simp [this]
end Go.Proofs.Ytiellefbndlkkaa
