import Derived.Test.YtbjgklifmillgaaGreatMFr
import Derived.Test.YtbjgklifmillgaaGreatMIni
import Derived.Test.YtbjgklifmillgaaGreatRSteep
/- The final distribution, of the program and of the reference. -/
namespace Go.Proofs.YtbjgklifmillgaaGreat
open Go.RowKit
set_option linter.unusedVariables false

def finAt (t : List Int) (n : Nat) (g : Bool) (k : Nat) : List Int := (List.range (n + 1)).map (fun j => if j < k then finV t n g j else 0)
theorem finAt_len (t : List Int) (n : Nat) (g : Bool) (k : Nat) : (finAt t n g k).length = n + 1 := by simp [finAt]
theorem finAt_get (t : List Int) (n : Nat) (g : Bool) (k : Nat) (h : k < n + 1) : (finAt t n g k).getD k 0 = 0 := by simp [finAt, List.getD, h]
theorem finAt_set (t : List Int) (n : Nat) (g : Bool) (k : Nat) : (finAt t n g k).set k (finV t n g k) = finAt t n g (k + 1) := by
  apply List.ext_getElem
  · simp [finAt]
  · intro i h1 h2
    simp only [finAt, List.getElem_set, List.getElem_map, List.getElem_range]
    by_cases hi : k = i
    · subst hi; rw [if_pos rfl, if_pos (by omega)]
    · rw [if_neg hi]
      by_cases h3 : i < k
      · rw [if_pos h3, if_pos (by omega)]
      · rw [if_neg h3, if_neg (by omega)]
theorem finAt_zero (t : List Int) (n : Nat) (g : Bool) : List.replicate (n + 1) (0 : Int) = finAt t n g 0 := by simp [finAt, List.map_const']
theorem finAt_end (t : List Int) (n : Nat) (g : Bool) : finAt t n g (n + 1) = finN t n g := by
  unfold finAt finN
  refine List.map_congr_left fun j hj => ?_
  rw [if_pos (by simpa using hj)]
set_option maxHeartbeats 1000000 in
set_option maxRecDepth 100000 in
theorem final_any (t : List Int) (a a1 a2 : Option Addr) (n c n1 c1 c2 : Nat) (g : Bool) (w : World) (ht : IntsR w a2 n t) (h0 : 0 < n) (h6 : n ≤ 6) (bt : ∀ x ∈ t, 1 ≤ x ∧ x ≤ 1000) :
    Calls Tryz.prog 84 #[.agg #[.slice a n c, .slice a1 n1 c1, .slice a2 n c2, .bool g]] w fun e' w' => ∃ g', e' = .returned (.tuple #[.slice (some ⟨g', 0, none⟩) (n + 1) (n + 1), .int .i64 (tsum t n)]) ∧ Below w.heap.size w w' ∧ IntsR w' (some ⟨g', 0, none⟩) (n + 1) (finN t n g) := by
  have htl := ht.len
  obtain ⟨bt0, ot, rfl, hbt, hct⟩ := ht.addr h0
  have HCT := Lib.hid (fun k (hk : k < n) => (show w.cell? ⟨bt0, ot + k, none⟩ = some (.int .i64 (t.getD k 0)) ∧ 1 ≤ t.getD k 0 ∧ t.getD k 0 ≤ 1000 from ⟨hct k hk, bt _ (getD_mem (by omega))⟩))
  have HTS := Lib.hid (fun k (hk : k ≤ n) => (show 0 ≤ tsum t k ∧ tsum t k ≤ 6000 by have := tsum_bd bt k (by omega); omega))
  have HFV := Lib.hid (fun k (hk : k ≤ n) => finV_bd g bt (show n ≤ t.length by omega) hk)
  clear ht hct bt htl
  have hmk2 : ∀ w' : World, (Instr.makeSlice 22 (.int .i64 ((n : Int) + 1)) (.int .i64 ((n : Int) + 1))).run Tryz.prog w' = .ok (.slice (some ⟨w'.heap.size, 0, none⟩) (n + 1) (n + 1)) (w'.alloc (.cells (madeCells #[Value.int .i64 0] (n + 1)) 3)) := by
    intro w'
    exact makeInts Tryz.prog w' 22 3 Tryz.underlying22 infoInt (n + 1) (by omega)
  have hds : (madeCells #[Value.int .i64 0] (n + 1)).toList = icells (List.replicate (n + 1) 0) := by rw [toList_madeCells_one]; simp [icells]
  have hdz : (madeCells #[Value.int .i64 0] (n + 1)).size = n + 1 := by simp [size_madeCells]
  generalize madeCells #[Value.int .i64 0] (n + 1) = ds at hmk2 hds hdz
  have HDS := Lib.hid (And.intro hds hdz)
  clear hds hdz
  go_enter Tryz.func84, Tryz.ntmps84
  go_wp2
  generalize hW : World.alloc _ _ = w5 at *
  obtain ⟨G, hG⟩ : ∃ G, G = w.heap.size + 1 := ⟨_, rfl⟩
  have hown : w5.ownsRow G 3 1 (.slice (some ⟨G, 0, none⟩) (n + 1) (n + 1)) (n + 1) (icells (finAt t n g 0)) := by
    rw [← finAt_zero, ← HDS.out.1, ← hW]
    exact owns_lit (by rw [hG]; simp) (Nat.le_refl _) (by omega) (by simp [HDS.out.2])
  have q2 : w5.cell? ⟨w.heap.size, 2, none⟩ = some (.slice (some ⟨bt0, ot, none⟩) n c2) := by { rw [← hW]; clear hW; go_simp }
  have q3 : w5.cell? ⟨w.heap.size, 3, none⟩ = some (.bool g) := by { rw [← hW]; clear hW; go_simp }
  have hb5 : Below w.heap.size w w5 := by rw [← hW]; (repeat' (first | (with_reducible exact Below.refl _ _) | (with_reducible assumption) | (with_reducible refine Below.drewN ?_ _) | (with_reducible refine Below.alloc ?_ ?_ _) | (with_reducible refine Below.drew ?_) | (with_reducible refine Below.setCell ?_ ?_ _) | (with_reducible refine Below.step (by assumption) ?_ ?_) | (with_reducible exact And.left (by assumption)) | go_size))
  have hz5 : w5.heap.size = G + 1 := by rw [← hW, hG]; simp
  have hGw : w.heap.size < G := by omega
  have HB5 := Lib.hid hb5
  have HO5 := Lib.hid hown
  simp only [← hG]
  clear hW hb5 hown hG
  go_loop [5, 18] (fun al i => ∃ k : Nat, i = .int .i64 k ∧ k ≤ n ∧ al = .int .i64 (tsum t k)) (fun _ i => n - (intOf i).toNat)
  case atStart => exact ⟨0, rfl, Nat.zero_le _, rfl⟩
  case round =>
    obtain ⟨k, rfl, hk, rfl⟩ := hrel
    rcases Nat.lt_or_ge k n with hlt | hge
    · have hc := (HCT.out k hlt).1
      rw [← cellB HB5.out _ _ hbt] at hc
      have hx := (HCT.out k hlt).2
      have hs := HTS.out k hk
      have HT := Lib.hid (show tsum t (k + 1) = tsum t k + t.getD k 0 from rfl)
      generalize t.getD k 0 = x at hc hx HT
      generalize tsum t k = S at hs HT
      have k0 : (0 : Int) ≤ (k : Int) := by omega
      have k1 : (k : Int) < (n : Int) := by omega
      go_wp2
      go_round
      case rel => exact ⟨k + 1, by go_num, by omega, by rw [HT.out]⟩
      case measure => simp [intOf]; omega
    · obtain rfl : k = n := by omega
      go_wp2
      go_loopw [8, 28] (fun bf i wr => ∃ (j : Nat) (T : Int), i = .int .i64 j ∧ j ≤ k + 1 ∧ bf = .int .i64 T ∧ Hid (j ≤ k → T = tsum t j) ∧ G < wr.heap.size ∧ Hid (wr.ownsRow G 3 1 (.slice (some ⟨G, 0, none⟩) (k + 1) (k + 1)) (k + 1) (icells (finAt t k g j))) ∧ Hid (Below G w5 wr)) (fun _ i _ => k + 1 - (intOf i).toNat)
      case atStart => exact ⟨0, 0, rfl, Nat.zero_le _, rfl, Lib.hid (fun _ => rfl), by omega, HO5, Lib.hid (Below.refl _ _)⟩
      case round =>
        obtain ⟨j, T, rfl, hj, rfl, hT, hGr, hO, hB⟩ := hrel
        obtain ⟨w6, rfl⟩ : ∃ w', w' = wr := ⟨wr, rfl⟩
        have hz6 := hB.out.size
        rcases Nat.lt_or_ge j (k + 1) with hlt | hge
        · have hr := hT.out (by omega)
          have hs := HTS.out j (by omega)
          have hsk := HTS.out k (Nat.le_refl _)
          have hfv := HFV.out j (by omega)
          rw [← hr] at hs
          have p2 : w6.cell? ⟨w.heap.size, 2, none⟩ = some (.slice (some ⟨bt0, ot, none⟩) k c2) := by rw [cellB hB.out _ _ hGw]; exact q2
          have p3 : w6.cell? ⟨w.heap.size, 3, none⟩ = some (.bool g) := by rw [cellB hB.out _ _ hGw]; exact q3
          have cd : w6.cell? ⟨G, j, none⟩ = some (.int .i64 0) := by rw [hO.out.cellAt j (by omega), icells_get (by rw [finAt_len]; omega), finAt_get _ _ _ _ (by omega)]
          have fd := hO.out.frozenAt j
          have lw : w.heap.size < w6.heap.size := by omega
          have HTJ := Lib.hid hr
          have HO6 := Lib.hid hO.out
          have HB6 := Lib.hid hB.out
          have HFV1 := Lib.hid (show finV t k g j = if g = true then tsum t k - tsum t j else tsum t k from rfl)
          rw [← hr] at HFV1
          generalize hA : tsum t k = A at hsk HFV1
          have HA := Lib.hid hA
          have j0 : (0 : Int) ≤ (j : Int) := by omega
          have j1 : (j : Int) < (k : Int) + 1 := by omega
          have q1 : ∀ v : Value, (w6.setCell ⟨G, j, none⟩ v).cell? ⟨w.heap.size, 2, none⟩ = some (.slice (some ⟨bt0, ot, none⟩) k c2) := fun v => by rw [World.cell?_setCell_other _ _ _ _ (fun e => by have := (Addr.mk.inj e).1; omega)]; exact p2
          clear hT hO hB hr hfv hA q2 q3
          by_cases hjk : j < k
          · have hc := (HCT.out j hjk).1
            rw [← cellB HB5.out _ _ hbt, ← cellB HB6.out _ _ (by omega)] at hc
            have hx := (HCT.out j hjk).2
            have HT := Lib.hid (show tsum t (j + 1) = tsum t j + t.getD j 0 from rfl)
            rw [← HTJ.out] at HT
            generalize t.getD j 0 = x at hc hx HT
            have j2 : (j : Int) < (k : Int) := by omega
            have hne : bt0 ≠ G := by omega
            cases g
            · simp only [Bool.false_eq_true, if_false] at HFV1
              go_wp2
              go_roundw
              case rel =>
                refine ⟨j + 1, _, by go_num, by omega, rfl, Lib.hid (fun _ => HT.out.symm), by simpa using hGr, ?_, Lib.hid (HB6.out.setCell (Nat.le_refl _) _)⟩
                have := (World.ownsRow.stored HO6.out j (.int .i64 A)).1
                rw [icells_set', ← HFV1.out, finAt_set] at this
                rw [← HFV1.out]; exact Lib.hid this
              case measure => simp [intOf]; omega
            · simp only [if_true] at HFV1
              go_wp2
              go_roundw
              case rel =>
                refine ⟨j + 1, _, by go_num, by omega, rfl, Lib.hid (fun _ => HT.out.symm), by simpa using hGr, ?_, Lib.hid ((HB6.out.setCell (Nat.le_refl _) _).setCell (Nat.le_refl _) _)⟩
                have := (World.ownsRow.stored (World.ownsRow.stored HO6.out j (.int .i64 A)).1 j (.int .i64 (A - T))).1
                rw [icells_set', icells_set', set_twice, ← HFV1.out, finAt_set] at this
                rw [← HFV1.out]; exact Lib.hid this
              case measure => simp [intOf]; omega
          · have j2 : ¬ ((j : Int) < (k : Int)) := by omega
            cases g
            · simp only [Bool.false_eq_true, if_false] at HFV1
              go_wp2
              go_roundw
              case rel =>
                refine ⟨j + 1, _, by go_num, by omega, rfl, Lib.hid (fun h => absurd h (by omega)), by simpa using hGr, ?_, Lib.hid (HB6.out.setCell (Nat.le_refl _) _)⟩
                have := (World.ownsRow.stored HO6.out j (.int .i64 A)).1
                rw [icells_set', ← HFV1.out, finAt_set] at this
                rw [← HFV1.out]; exact Lib.hid this
              case measure => simp [intOf]; omega
            · simp only [if_true] at HFV1
              go_wp2
              go_roundw
              case rel =>
                refine ⟨j + 1, _, by go_num, by omega, rfl, Lib.hid (fun h => absurd h (by omega)), by simpa using hGr, ?_, Lib.hid ((HB6.out.setCell (Nat.le_refl _) _).setCell (Nat.le_refl _) _)⟩
                have := (World.ownsRow.stored (World.ownsRow.stored HO6.out j (.int .i64 A)).1 j (.int .i64 (A - T))).1
                rw [icells_set', icells_set', set_twice, ← HFV1.out, finAt_set] at this
                rw [← HFV1.out]; exact Lib.hid this
              case measure => simp [intOf]; omega
        · obtain rfl : j = k + 1 := by omega
          have HR := Lib.hid (SlR.of_owns hO.out)
          have HB6 := Lib.hid (HB5.out.trans (hB.out.mono (by omega)))
          clear hO hB hT q2 q3
          go_wp2
          go_ret2
          refine ⟨G, rfl, HB6.out, ?_⟩
          have := HR.out
          rw [finAt_end] at this
          exact this
end Go.Proofs.YtbjgklifmillgaaGreat
