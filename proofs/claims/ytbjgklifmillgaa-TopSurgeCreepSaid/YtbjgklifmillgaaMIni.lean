import Derived.Test.YtbjgklifmillgaaFrac
import Derived.Test.YtbjgklifmillgaaMPf
/- The initial voltages of a chain, as numerators. -/
namespace Go.Proofs.Ytbjgklifmillgaa
open Go.RowKit
set_option linter.unusedVariables false

theorem rep_get (m i : Nat) : (List.replicate m (0 : Int)).getD i 0 = 0 := by
  by_cases h : i < m
  · simp [List.getD, h]
  · simp [List.getD, h]
theorem lasts (n : Nat) (g : Bool) (hn : 0 < n) : ∃ L : Nat, lastOf n g = L ∧ L ≤ n ∧ n ≤ L + 1 := by
  unfold lastOf
  cases g
  · exact ⟨n, rfl, Nat.le_refl _, by omega⟩
  · exact ⟨n - 1, by simp; omega, by omega, by omega⟩

theorem dd_bd6 (s e : List Int) (L : Nat) (bs : ∀ x ∈ s, 0 ≤ x ∧ x ≤ 100) (be : ∀ x ∈ e, 0 ≤ x ∧ x ≤ 100) (m : Nat) (hm : m ≤ 6) : -4096000000000000 ≤ dd s e L m ∧ dd s e L m ≤ 4096000000000000 := by
  have h := (dd_bd s e L bs be m).1
  have : (400 : Int) ^ m ≤ 4096000000000000 := by
    rcases m with _ | _ | _ | _ | _ | _ | _ | m <;> first | (simp; done) | decide | omega
  omega
theorem dd_bd5 (s e : List Int) (L : Nat) (bs : ∀ x ∈ s, 0 ≤ x ∧ x ≤ 100) (be : ∀ x ∈ e, 0 ≤ x ∧ x ≤ 100) (m : Nat) (hm : m ≤ 5) : -10240000000000 ≤ dd s e L m ∧ dd s e L m ≤ 10240000000000 := by
  have h := (dd_bd s e L bs be m).1
  have : (400 : Int) ^ m ≤ 10240000000000 := by
    rcases m with _ | _ | _ | _ | _ | _ | m <;> first | (simp; done) | decide | omega
  omega
theorem prd_bd (s e : List Int) (L : Nat) (bs : ∀ x ∈ s, 0 ≤ x ∧ x ≤ 100) (be : ∀ x ∈ e, 0 ≤ x ∧ x ≤ 100) (k : Nat) (hk : k < L) (hL : L ≤ 6) : -9000000000000000000 ≤ pr s k * s.getD k 0 * dd s e L (L - (k + 1)) ∧ pr s k * s.getD k 0 * dd s e L (L - (k + 1)) ≤ 9000000000000000000 := by
  have h1 := pr_bd s bs (k + 1)
  have h2 := (dd_bd s e L bs be (L - (k + 1))).1
  have e1 : pr s (k + 1) = pr s k * s.getD k 0 := rfl
  rw [← e1]
  have hc : (100 : Int) ^ (k + 1) * 400 ^ (L - (k + 1)) ≤ 9000000000000000000 := by
    have h3 : (100 : Int) ^ (k + 1) ≤ 400 ^ (k + 1) := by
      have : (k + 1) ≤ 6 := by omega
      rcases k with _ | _ | _ | _ | _ | _ | k <;> first | decide | omega
    have h4 : (0 : Int) ≤ 400 ^ (L - (k + 1)) := Int.le_of_lt (Int.pow_pos (by omega))
    have h5 := Int.mul_le_mul_of_nonneg_right h3 h4
    rw [← Int.pow_add, show k + 1 + (L - (k + 1)) = L by omega] at h5
    have h6 : (400 : Int) ^ L ≤ 4096000000000000 := by
      rcases L with _ | _ | _ | _ | _ | _ | _ | L <;> first | (simp; done) | decide | omega
    omega
  exact mulb (100 ^ (k + 1)) (400 ^ (L - (k + 1))) _ (by omega) h1.2 h2.1 h2.2 hc
set_option maxHeartbeats 2000000 in
set_option maxRecDepth 100000 in
theorem cinit_main (s e : List Int) (a a1 : Option Addr) (n c n1 c1 L : Nat) (g : Bool) (w : World) (hs : IntsR w a n s) (he : IntsR w a1 n1 e) (hn : n1 = n) (hn0 : 0 < n) (hn6 : n ≤ 6) (hL : lastOf n g = L) (hL1 : L ≤ n) (hL2 : n ≤ L + 1)
    (bs : ∀ x ∈ s, 0 ≤ x ∧ x ≤ 100) (be : ∀ x ∈ e, 0 ≤ x ∧ x ≤ 100) :
    Calls Try.prog 81 #[.agg #[.slice a n c, .slice a1 n1 c1, .bool g]] w fun e' w' => ∃ g', e' = .returned (.tuple #[.slice (some ⟨g', 0, none⟩) (n + 1) (n + 1), .int .i64 (dd s e L L)]) ∧ Below w.heap.size w w' ∧ IntsR w' (some ⟨g', 0, none⟩) (n + 1) (numsOf s e n L) := by
  have HO := Lib.hid (fun (k : Nat) (hk : k < n) (w' : World) (hb : Below w.heap.size w w') => own_any s e a a1 n c n1 c1 k g w' (hs.below hb) (he.below hb) hn (by omega) hk (fun x hx => by have := bs x hx; omega) (fun x hx => by have := be x hx; omega))
  have HLA := Lib.hid (fun (w' : World) => clast_any a a1 n c n1 c1 g w' (by omega))
  rw [hL] at HLA
  subst n1
  obtain ⟨b0, o0, rfl, hb0, hc0⟩ := hs.addr hn0
  obtain ⟨b1, o1, rfl, hb1, hc1⟩ := he.addr hn0
  have HC := Lib.hid hc0
  have hmk : ∀ w' : World, (Instr.makeSlice 31 (.int .i64 ((n : Int) + 3)) (.int .i64 ((n : Int) + 3))).run Try.prog w' = .ok (.slice (some ⟨w'.heap.size, 0, none⟩) (n + 3) (n + 3)) (w'.alloc (.cells (madeCells #[Value.int .i64 0] (n + 3)) 3)) := by
    intro w'
    exact makeInts Try.prog w' 31 3 Try.underlying31 infoInt (n + 3) (by omega)
  have hmk2 : ∀ w' : World, (Instr.makeSlice 31 (.int .i64 ((n : Int) + 1)) (.int .i64 ((n : Int) + 1))).run Try.prog w' = .ok (.slice (some ⟨w'.heap.size, 0, none⟩) (n + 1) (n + 1)) (w'.alloc (.cells (madeCells #[Value.int .i64 0] (n + 1)) 3)) := by
    intro w'
    exact makeInts Try.prog w' 31 3 Try.underlying31 infoInt (n + 1) (by omega)
  have hds : (madeCells #[Value.int .i64 0] (n + 1)).toList = icells (List.replicate (n + 1) 0) := by rw [toList_madeCells_one]; simp [icells]
  have hdz : (madeCells #[Value.int .i64 0] (n + 1)).size = n + 1 := by simp [size_madeCells]
  generalize madeCells #[Value.int .i64 0] (n + 1) = ds at hmk2 hds hdz
  have hdg : ds[0]? = some (Value.int .i64 0) := by
    rw [← Array.getElem?_toList, hds]; exact (icells_get (by simp)).trans (by rw [rep_get])
  have HDS := Lib.hid (And.intro hds hdz)
  clear hds hdz
  have hcs : (madeCells #[Value.int .i64 0] (n + 3)).toList = icells (List.replicate (n + 3) 0) := by rw [toList_madeCells_one]; simp [icells]
  have hcz : (madeCells #[Value.int .i64 0] (n + 3)).size = n + 3 := by simp [size_madeCells]
  generalize madeCells #[Value.int .i64 0] (n + 3) = cs at hmk hcs hcz
  have hcg : cs[L + 1]? = some (Value.int .i64 0) := by
    rw [← Array.getElem?_toList, hcs]; exact (icells_get (by simp; omega)).trans (by rw [rep_get])
  have HCS := Lib.hid (And.intro hcs hcz)
  clear hcs hcz
  have HSL := Lib.hid hs.len
  have HBD := Lib.hid (And.intro bs be)
  clear hs he hc0 hc1 bs be hL
  go_enter Try.func81, Try.ntmps81
  go_wp2
  refine later_all (by kernel_rfl) (by kernel_rfl) ?_; repeat go_big_quiet_step(refine calls_later (HLA.out _))
  refine wpQuiet_nil ?_; intro w5 hb5
  have hz5 := hb5.size
  simp only [World.size_alloc] at hz5
  have q0 : w5.cell? ⟨w.heap.size, 0, none⟩ = some (.slice (some ⟨b0, o0, none⟩) n c) := by { rw [cellB hb5 _ _ (by first | (simp; done) | (simp; omega) | omega)]; all_goals (first | assumption | go_simp) }; have q1 : w5.cell? ⟨w.heap.size, 1, none⟩ = some (.slice (some ⟨b1, o1, none⟩) n c1) := by { rw [cellB hb5 _ _ (by first | (simp; done) | (simp; omega) | omega)]; all_goals (first | assumption | go_simp) }; have q2 : w5.cell? ⟨w.heap.size, 2, none⟩ = some (.bool g) := by { rw [cellB hb5 _ _ (by first | (simp; done) | (simp; omega) | omega)]; all_goals (first | assumption | go_simp) }; have l0 : w.heap.size < w5.heap.size := by { omega }
  have HB5 := Lib.hid (show Below w.heap.size w w5 by (repeat' (first | (with_reducible exact Below.refl _ _) | (with_reducible assumption) | (with_reducible refine Below.drewN ?_ _) | (with_reducible refine Below.alloc ?_ ?_ _) | (with_reducible refine Below.drew ?_) | (with_reducible refine Below.setCell ?_ ?_ _) | (with_reducible refine Below.step (by assumption) ?_ ?_) | (with_reducible exact And.left (by assumption)) | go_size)))
  clear hb5
  have i0 : (0 : Int) ≤ (L : Int) := by omega
  have i1 : (L : Int) + 1 < (n : Int) + 3 := by omega
  go_wp2
  have hown : (w5.alloc (Obj.cells (cs.setIfInBounds (L + 1) (Value.int IntKind.i64 1)) 3)).ownsRow w5.heap.size 3 1 (.slice (some ⟨w5.heap.size, 0, none⟩) (n + 3) (n + 3)) (n + 3) (icells (ddAt s e n L L)) := by
    rw [← ddAt_start s e n L (by omega), ← icells_set', ← HCS.out.1, ← Array.toList_setIfInBounds]
    exact owns_lit rfl (Nat.le_refl _) (by omega) (by simp [HCS.out.2])
  have hb6 : Below w5.heap.size w5 (w5.alloc (Obj.cells (cs.setIfInBounds (L + 1) (Value.int IntKind.i64 1)) 3)) := by (repeat' (first | (with_reducible exact Below.refl _ _) | (with_reducible assumption) | (with_reducible refine Below.drewN ?_ _) | (with_reducible refine Below.alloc ?_ ?_ _) | (with_reducible refine Below.drew ?_) | (with_reducible refine Below.setCell ?_ ?_ _) | (with_reducible refine Below.step (by assumption) ?_ ?_) | (with_reducible exact And.left (by assumption)) | go_size))
  have hz6 : w5.heap.size < (w5.alloc (Obj.cells (cs.setIfInBounds (L + 1) (Value.int IntKind.i64 1)) 3)).heap.size := by simp
  generalize (w5.alloc (Obj.cells (cs.setIfInBounds (L + 1) (Value.int IntKind.i64 1)) 3)) = w6 at *
  have HOW := Lib.hid hown
  have HB6 := Lib.hid hb6
  clear hown hb6
  go_loopw [7] (fun i wr => ∃ j : Nat, i = .int .i64 j ∧ j ≤ L ∧ Hid (wr.ownsRow w5.heap.size 3 1 (.slice (some ⟨w5.heap.size, 0, none⟩) (n + 3) (n + 3)) (n + 3) (icells (ddAt s e n L j))) ∧ Hid (Below w5.heap.size w5 wr)) (fun i _ => (intOf i).toNat)
  case atStart => exact ⟨L, rfl, Nat.le_refl _, HOW, HB6⟩
  case round =>
    obtain ⟨j, rfl, hj, hO, hB⟩ := hrel
    have hbr := hB.out
    have hzr := hbr.size
    have l5 := (hO.out.lt w5.heap.size rfl).2
    have q0' : wr.cell? ⟨w.heap.size, 0, none⟩ = some (.slice (some ⟨b0, o0, none⟩) n c) := by { rw [cellB hbr _ _ (by first | (simp; done) | (simp; omega) | omega)]; all_goals (first | assumption | go_simp) }; have q1' : wr.cell? ⟨w.heap.size, 1, none⟩ = some (.slice (some ⟨b1, o1, none⟩) n c1) := by { rw [cellB hbr _ _ (by first | (simp; done) | (simp; omega) | omega)]; all_goals (first | assumption | go_simp) }; have q2' : wr.cell? ⟨w.heap.size, 2, none⟩ = some (.bool g) := by { rw [cellB hbr _ _ (by first | (simp; done) | (simp; omega) | omega)]; all_goals (first | assumption | go_simp) }; have l0' : w.heap.size < wr.heap.size := by { omega }
    rcases j with _ | k
    · obtain ⟨DL, hDL⟩ : ∃ DL, DL = dd s e L L := ⟨_, rfl⟩
      have cd1 : wr.cell? ⟨w5.heap.size, 1, none⟩ = some (.int .i64 DL) := by
        rw [hO.out.cellAt 1 (by omega), icells_get (by rw [ddAt_len]; omega), ddAt_get _ _ _ _ _ _ (by omega), if_pos (by omega), Nat.add_sub_cancel, ← hDL]
      have bDL : -4096000000000000 ≤ DL ∧ DL ≤ 4096000000000000 := by rw [hDL]; exact dd_bd6 s e _ HBD.out.1 HBD.out.2 L (by omega)
      have HDL := Lib.hid hDL
      clear hDL hbr
      have i2 : (0 : Int) < (n : Int) + 1 := by omega
      have i3 : (1 : Int) < (n : Int) + 3 := by omega
      go_wp2
      have hown : (wr.alloc (Obj.cells (ds.setIfInBounds 0 (Value.int IntKind.i64 DL)) 3)).ownsRow wr.heap.size 3 1 (.slice (some ⟨wr.heap.size, 0, none⟩) (n + 1) (n + 1)) (n + 1) (icells (numsAt s e n L 1)) := by
        rw [← nums_set s e n L 0 (Nat.zero_le _), ← nums_start, Nat.sub_zero, ← HDL.out, show pr s 0 * DL = DL by simp [pr], ← icells_set', ← HDS.out.1, ← Array.toList_setIfInBounds]
        exact owns_lit rfl (Nat.le_refl _) (by omega) (by simp [HDS.out.2])
      have hb6 : Below wr.heap.size wr (wr.alloc (Obj.cells (ds.setIfInBounds 0 (Value.int IntKind.i64 DL)) 3)) := by (repeat' (first | (with_reducible exact Below.refl _ _) | (with_reducible assumption) | (with_reducible refine Below.drewN ?_ _) | (with_reducible refine Below.alloc ?_ ?_ _) | (with_reducible refine Below.drew ?_) | (with_reducible refine Below.setCell ?_ ?_ _) | (with_reducible refine Below.step (by assumption) ?_ ?_) | (with_reducible exact And.left (by assumption)) | go_size))
      have hz6 : wr.heap.size < (wr.alloc (Obj.cells (ds.setIfInBounds 0 (Value.int IntKind.i64 DL)) 3)).heap.size := by simp
      generalize (wr.alloc (Obj.cells (ds.setIfInBounds 0 (Value.int IntKind.i64 DL)) 3)) = w8 at *
      have HOD := Lib.hid (owns_below hO.out hb6 (fun q hq => (hO.out.lt q hq).2))
      have HON := Lib.hid hown
      have HB8 := Lib.hid ((HB5.out.trans (hB.out.mono (by omega))).trans (hb6.mono (by omega)))
      have q0 : w8.cell? ⟨w.heap.size, 0, none⟩ = some (.slice (some ⟨b0, o0, none⟩) n c) := by { rw [cellB hb6 _ _ (by first | (simp; done) | (simp; omega) | omega)]; all_goals (first | assumption | go_simp) }; have q1 : w8.cell? ⟨w.heap.size, 1, none⟩ = some (.slice (some ⟨b1, o1, none⟩) n c1) := by { rw [cellB hb6 _ _ (by first | (simp; done) | (simp; omega) | omega)]; all_goals (first | assumption | go_simp) }; have q2 : w8.cell? ⟨w.heap.size, 2, none⟩ = some (.bool g) := by { rw [cellB hb6 _ _ (by first | (simp; done) | (simp; omega) | omega)]; all_goals (first | assumption | go_simp) }; have l0 : w.heap.size < w8.heap.size := by { omega }
      have l8 := l0'
      have z8 : wr.heap.size < w8.heap.size := hz6
      clear hown hb6 cd1 q0' q1' q2' l0' hO hB hz6
      generalize wr.heap.size = N8 at *
      go_loopw [9, 10] (fun v i wq => ∃ k : Nat, i = .int .i64 ((k : Int) + 1) ∧ k ≤ L ∧ v = .int .i64 (pr s k) ∧ Hid (wq.ownsRow N8 3 1 (.slice (some ⟨N8, 0, none⟩) (n + 1) (n + 1)) (n + 1) (icells (numsAt s e n L (k + 1)))) ∧ Hid (Below N8 w8 wq)) (fun _ i _ => L + 1 - (intOf i).toNat)
      case atStart => exact ⟨0, rfl, Nat.zero_le _, rfl, HON, Lib.hid (Below.refl _ _)⟩
      case round =>
        obtain ⟨k, rfl, hk, rfl, hO, hB⟩ := hrel
        have hbq := hB.out
        have hzq := hbq.size
        have hOD := owns_below HOD.out hbq (fun q hq => by simp [Value.ownBlock] at hq; omega)
        have q0' : wr.cell? ⟨w.heap.size, 0, none⟩ = some (.slice (some ⟨b0, o0, none⟩) n c) := by { rw [cellB hbq _ _ (by first | (simp; done) | (simp; omega) | omega)]; all_goals (first | assumption | go_simp) }; have q1' : wr.cell? ⟨w.heap.size, 1, none⟩ = some (.slice (some ⟨b1, o1, none⟩) n c1) := by { rw [cellB hbq _ _ (by first | (simp; done) | (simp; omega) | omega)]; all_goals (first | assumption | go_simp) }; have q2' : wr.cell? ⟨w.heap.size, 2, none⟩ = some (.bool g) := by { rw [cellB hbq _ _ (by first | (simp; done) | (simp; omega) | omega)]; all_goals (first | assumption | go_simp) }; have l0' : w.heap.size < wr.heap.size := by { omega }
        have HOD' := Lib.hid hOD
        clear hbq hOD
        rcases Nat.lt_or_ge k L with hkL | hkL
        · obtain ⟨S1, hS1⟩ : ∃ S1, S1 = s.getD k 0 := ⟨_, rfl⟩
          obtain ⟨D1, hD1⟩ : ∃ D1, D1 = dd s e L (L - (k + 1)) := ⟨_, rfl⟩
          obtain ⟨P0, hP0⟩ : ∃ P0, P0 = pr s k := ⟨_, rfl⟩
          have cs1 : wr.cell? ⟨b0, o0 + k, none⟩ = some (.int .i64 S1) := by rw [cellB hB.out _ _ (by omega), cellB HB8.out _ _ hb0, hS1]; exact HC.out k (by omega)
          have cd2 : wr.cell? ⟨w5.heap.size, k + 2, none⟩ = some (.int .i64 D1) := by
            rw [HOD'.out.cellAt (k + 2) (by omega), icells_get (by rw [ddAt_len]; omega), ddAt_get _ _ _ _ _ _ (by omega), if_pos (by omega), show L + 1 - (k + 2) = L - (k + 1) by omega, ← hD1]
          have cn1 : wr.cell? ⟨N8, k + 1, none⟩ = some (.int .i64 0) := by
            rw [hO.out.cellAt (k + 1) (by omega), icells_get (by rw [nums_len]; omega), nums_get _ _ _ _ _ (by omega)]
          have fn1 := hO.out.frozenAt (k + 1)
          have bS : 0 ≤ S1 ∧ S1 ≤ 100 := by rw [hS1]; exact HBD.out.1 _ (getD_mem (by rw [HSL.out]; omega))
          have bP : 0 ≤ P0 ∧ P0 ≤ 10000000000 := by
            rw [hP0]; have := pr_bd s HBD.out.1 k
            have h5 : (100 : Int) ^ k ≤ 10000000000 := by
              rcases k with _ | _ | _ | _ | _ | _ | k <;> first | (simp; done) | decide | omega
            omega
          have bPD : -9000000000000000000 ≤ P0 * S1 * D1 ∧ P0 * S1 * D1 ≤ 9000000000000000000 := by
            rw [hP0, hS1, hD1]; exact prd_bd s e L HBD.out.1 HBD.out.2 k hkL (by omega)
          have bPS := mulb (a := P0) (b := S1) 10000000000 100 1000000000000 (by omega) (by omega) (by omega) (by omega) (by omega)
          have hPr : pr s (k + 1) = P0 * S1 := by rw [hP0, hS1]; rfl
          have HPr := Lib.hid hPr
          have HD1 := Lib.hid hD1
          have i2 : (k : Int) + 1 ≤ (L : Int) := by omega
          have i3 : (0 : Int) ≤ (k : Int) := by omega
          have i4 : (k : Int) < (n : Int) := by omega
          have i5 : (k : Int) + 2 < (n : Int) + 3 := by omega
          have i6 : (k : Int) + 1 < (n : Int) + 1 := by omega
          rw [← hP0]
          clear hS1 hD1 hP0 hPr
          go_wp2
          go_roundw
          case rel =>
            refine ⟨k + 1, by go_num, by omega, by rw [HPr.out], ?_, ?_⟩
            · have := (World.ownsRow.stored hO.out (k + 1) (.int .i64 (P0 * S1 * D1))).1
              rw [icells_set', ← HPr.out, HD1.out, nums_set _ _ _ _ _ (by omega)] at this
              rw [← HPr.out, HD1.out]
              exact Lib.hid this
            · have := hB.out
              exact Lib.hid (by (repeat' (first | (with_reducible exact Below.refl _ _) | (with_reducible assumption) | (with_reducible refine Below.drewN ?_ _) | (with_reducible refine Below.alloc ?_ ?_ _) | (with_reducible refine Below.drew ?_) | (with_reducible refine Below.setCell ?_ ?_ _) | (with_reducible refine Below.step (by assumption) ?_ ?_) | (with_reducible exact And.left (by assumption)) | go_size)))
          case measure => simp [intOf]; omega
        · obtain rfl : k = L := by omega
          have i2 : ¬ ((k : Int) + 1 ≤ (k : Int)) := by omega
          have cd1 : wr.cell? ⟨w5.heap.size, 1, none⟩ = some (.int .i64 (dd s e k k)) := by
            rw [HOD'.out.cellAt 1 (by omega), icells_get (by rw [ddAt_len]; omega), ddAt_get _ _ _ _ _ _ (by omega), if_pos (by omega), Nat.add_sub_cancel]
          have HR := Lib.hid (SlR.of_owns hO.out)
          have HBR := Lib.hid (HB8.out.trans (hB.out.mono (by omega)))
          obtain ⟨DK, hDK⟩ : ∃ DK, DK = dd s e k k := ⟨_, rfl⟩
          rw [← hDK] at cd1
          have HDK := Lib.hid hDK
          clear hDK
          go_wp2
          refine later_all (by kernel_rfl) (by kernel_rfl) ?_; repeat go_big_quiet_step(fail)
          refine wpQuiet_nil ?_; intro w9 hb9
          go_wp2
          go_ret2
          refine ⟨N8, by { obtain rfl := HDK.out; rfl }, HBR.out.trans (hb9.mono HBR.out.size), ?_⟩
          have := (HR.out).below hb9
          rw [nums_end] at this
          exact this
    · obtain ⟨m, rfl⟩ : ∃ m, L = k + 1 + m := ⟨L - (k + 1), by omega⟩
      have e1 : k + 1 + m + 1 - (k + 1 + 1) = m := by omega
      have e2 : k + 1 + m - k = m + 1 := by omega
      obtain ⟨D1, hD1⟩ : ∃ D1, D1 = dd s e (k + 1 + m) m := ⟨_, rfl⟩
      obtain ⟨O1, hO1⟩ : ∃ O1, O1 = ownOf s e k := ⟨_, rfl⟩
      have cd1 : wr.cell? ⟨w5.heap.size, k + 1 + 1, none⟩ = some (.int .i64 D1) := by
        rw [hO.out.cellAt (k + 1 + 1) (by omega), icells_get (by rw [ddAt_len]; omega), ddAt_get _ _ _ _ _ _ (by omega), if_pos (by omega), e1, ← hD1]
      have cd0 : wr.cell? ⟨w5.heap.size, k + 1, none⟩ = some (.int .i64 0) := by
        rw [hO.out.cellAt (k + 1) (by omega), icells_get (by rw [ddAt_len]; omega), ddAt_get _ _ _ _ _ _ (by omega), if_neg (by omega)]
      have bD : -10240000000000 ≤ D1 ∧ D1 ≤ 10240000000000 := by rw [hD1]; exact dd_bd5 s e _ HBD.out.1 HBD.out.2 m (by omega)
      have bO : 0 ≤ O1 ∧ O1 ≤ 300 := by rw [hO1]; exact own_bd s e k HBD.out.1 HBD.out.2
      have hOK := HO.out k (by omega)
      rw [← hO1] at hOK
      have HOK := Lib.hid hOK
      have HD1 := Lib.hid hD1
      have HO1 := Lib.hid hO1
      clear hD1 hO1 hOK
      have fd1 := hO.out.frozenAt (k + 1)
      have i2 : (1 : Int) ≤ (k : Int) + 1 := by omega
      have i3 : (k : Int) + 1 + 1 < (n : Int) + 3 := by omega
      have i4 : (k : Int) + 1 < (n : Int) + 3 := by omega
      have i5 : (0 : Int) ≤ (k : Int) := by omega
      have bM := mulb (a := O1) (b := D1) 300 10240000000000 3072000000000000 (by omega) (by omega) (by omega) (by omega) (by omega)
      have HBW := Lib.hid (HB5.out.trans (hbr.mono (by omega)))
      clear hbr
      go_wp2
      refine later_of_eq 11 (by kernel_rfl) (by kernel_rfl) ?_; simp only [List.take_succ_cons, List.take_zero, List.drop_succ_cons, List.drop_zero]; repeat go_big_quiet_step (refine calls_later (HOK.out _ (Below.trans HBW.out (Below.mono (Later.below _) (by have := HBW.out.size; omega)))))
      refine wpQuiet_nil ?_; intro w7 hb7
      have hz7 := hb7.size
      have q0 : w7.cell? ⟨w.heap.size, 0, none⟩ = some (.slice (some ⟨b0, o0, none⟩) n c) := by { rw [cellB hb7 _ _ (by first | (simp; done) | (simp; omega) | omega)]; all_goals (first | assumption | go_simp) }; have q1 : w7.cell? ⟨w.heap.size, 1, none⟩ = some (.slice (some ⟨b1, o1, none⟩) n c1) := by { rw [cellB hb7 _ _ (by first | (simp; done) | (simp; omega) | omega)]; all_goals (first | assumption | go_simp) }; have q2 : w7.cell? ⟨w.heap.size, 2, none⟩ = some (.bool g) := by { rw [cellB hb7 _ _ (by first | (simp; done) | (simp; omega) | omega)]; all_goals (first | assumption | go_simp) }; have l0 : w.heap.size < w7.heap.size := by { omega }; have cd0' : w7.cell? ⟨w5.heap.size, k + 1, none⟩ = some (.int .i64 0) := by { rw [cellB hb7 _ _ (by first | (simp; done) | (simp; omega) | omega)]; all_goals (first | assumption | go_simp) }; have fd1' : w7.frozen? ⟨w5.heap.size, k + 1, none⟩ = false := by { rw [frozenB hb7 _ _ (by first | (simp; done) | (simp; omega) | omega)]; all_goals (first | assumption | go_simp) }
      have hO7 := owns_below hO.out hb7 (fun q hq => (hO.out.lt q hq).2)
      have HBW7 := Lib.hid (HBW.out.trans (hb7.mono (by have := HBW.out.size; omega)))
      have HB7 := Lib.hid (hB.out.trans (hb7.mono hzr))
      clear q0' q1' q2' l0' cd0 cd1 fd1 hb7 hO hB
      have HO7' := Lib.hid hO7
      have HO7 := Lib.hid ((World.ownsRow.stored hO7 (k + 1) (.int .i64 (O1 * D1))).1)
      clear hO7
      rcases m with _ | p
      · have hkL : ¬ ((k : Int) + 1 < ((k + 1 + 0 : Nat) : Int)) := by omega
        go_wp2
        refine ⟨⟨k, rfl, by omega, ?_, ?_⟩, by simp [intOf]⟩
        · have := HO7.out
          have hv : O1 * D1 = dd s e (k + 1 + 0) (k + 1 + 0 - k) := by rw [HD1.out, HO1.out, e2]; simp [dd]
          rw [icells_set', hv, ddAt_set _ _ _ _ _ (by omega) (by omega)] at this
          rw [hv]
          exact Lib.hid this
        · have := HB7.out
          exact Lib.hid (by (repeat' (first | (with_reducible exact Below.refl _ _) | (with_reducible assumption) | (with_reducible refine Below.drewN ?_ _) | (with_reducible refine Below.alloc ?_ ?_ _) | (with_reducible refine Below.drew ?_) | (with_reducible refine Below.setCell ?_ ?_ _) | (with_reducible refine Below.step (by assumption) ?_ ?_) | (with_reducible exact And.left (by assumption)) | go_size)))
      · have hkL : (k : Int) + 1 < ((k + 1 + (p + 1) : Nat) : Int) := by omega
        obtain ⟨S1, hS1⟩ : ∃ S1, S1 = s.getD (k + 1) 0 := ⟨_, rfl⟩
        obtain ⟨D2, hD2⟩ : ∃ D2, D2 = dd s e (k + 1 + (p + 1)) p := ⟨_, rfl⟩
        have cs1 : w7.cell? ⟨b0, o0 + (k + 1), none⟩ = some (.int .i64 S1) := by rw [cellB HBW7.out _ _ hb0, hS1]; exact HC.out (k + 1) (by omega)
        have bS : 0 ≤ S1 ∧ S1 ≤ 100 := by rw [hS1]; exact HBD.out.1 _ (getD_mem (by rw [HSL.out]; omega))
        have bD2 : -10240000000000 ≤ D2 ∧ D2 ≤ 10240000000000 := by rw [hD2]; exact dd_bd5 s e _ HBD.out.1 HBD.out.2 p (by omega)
        have cd2 : w7.cell? ⟨w5.heap.size, k + 1 + 2, none⟩ = some (.int .i64 D2) := by
          rw [HO7'.out.cellAt (k + 1 + 2) (by omega), icells_get (by rw [ddAt_len]; omega), ddAt_get _ _ _ _ _ _ (by omega), if_pos (by omega), show k + 1 + (p + 1) + 1 - (k + 1 + 2) = p by omega, ← hD2]
        have HS1 := Lib.hid hS1
        have HD2 := Lib.hid hD2
        clear hS1 hD2
        have bSS := mulb (a := S1) (b := S1) 100 100 10000 (by omega) (by omega) (by omega) (by omega) (by omega)
        have bSD := mulb (a := S1 * S1) (b := D2) 10000 10240000000000 102400000000000000 (by omega) (by omega) (by omega) (by omega) (by omega)
        have i6 : (k : Int) + 1 < (n : Int) := by omega
        have i7 : (k : Int) + 1 + 2 < (n : Int) + 3 := by omega
        go_wp2
        refine drew_of_eq 21 (by kernel_rfl) (by kernel_rfl) ?_; simp only [List.take_succ_cons, List.take_zero, List.drop_succ_cons, List.drop_zero]; repeat go_big_quiet_step (fail)
        refine wpQuiet_nil ?_; intro m9
        go_wp2
        refine ⟨⟨k, rfl, by omega, ?_, ?_⟩, by simp [intOf]⟩
        · have := (World.ownsRow.stored (owns_drewN HO7.out m9) (k + 1) (.int .i64 (O1 * D1 - S1 * S1 * D2))).1
          have hv : O1 * D1 - S1 * S1 * D2 = dd s e (k + 1 + (p + 1)) (k + 1 + (p + 1) - k) := by
            rw [HD1.out, HO1.out, HS1.out, HD2.out, e2]
            simp only [dd]
            rw [show k + 1 + (p + 1) - p - 2 = k by omega, show k + 1 + (p + 1) - p - 1 = k + 1 by omega]
          rw [icells_set', icells_set', set_twice, hv, ddAt_set _ _ _ _ _ (by omega) (by omega)] at this
          rw [hv]
          exact Lib.hid this
        · have := HB7.out
          exact Lib.hid (by (repeat' (first | (with_reducible exact Below.refl _ _) | (with_reducible assumption) | (with_reducible refine Below.drewN ?_ _) | (with_reducible refine Below.alloc ?_ ?_ _) | (with_reducible refine Below.drew ?_) | (with_reducible refine Below.setCell ?_ ?_ _) | (with_reducible refine Below.step (by assumption) ?_ ?_) | (with_reducible exact And.left (by assumption)) | go_size)))
end Go.Proofs.Ytbjgklifmillgaa

/- The initial distribution of a ladder. -/
namespace Go.Proofs.Ytbjgklifmillgaa
open Go.RowKit
set_option linter.unusedVariables false

theorem ladErr_zero {s e t : List Int} (h : ladErr s e t = 0) : 0 < s.length ∧ e.length = s.length ∧ t.length = s.length ∧ s.length ≤ 6 ∧ (∀ x ∈ s, 1 ≤ x ∧ x ≤ 100) ∧ (∀ x ∈ e, 0 ≤ x ∧ x ≤ 100) ∧ (∀ x ∈ t, 1 ≤ x ∧ x ≤ 1000) := by
  unfold ladErr at h
  by_cases h1 : 0 < s.length ∧ e.length = s.length ∧ t.length = s.length
  · rw [if_pos h1] at h
    by_cases h2 : s.length ≤ 6
    · rw [if_pos h2] at h
      have h3 := unl_zero (by omega) h
      obtain ⟨h0, he, ht⟩ := h1
      have key : ∀ i (hi : i < s.length), ok3 (s[i], e[i], t[i]) = true := by
        intro i hi
        unfold ladAll at h3
        simp only [List.drop_zero] at h3
        rw [List.all_eq_true] at h3
        refine h3 _ ?_
        rw [List.mem_iff_getElem]
        refine ⟨i, by simp; omega, by simp⟩
      refine ⟨h0, he, ht, h2, ?_, ?_, ?_⟩
      · intro x hx
        obtain ⟨i, hi, rfl⟩ := List.mem_iff_getElem.1 hx
        have := key i hi
        simp only [ok3, Bool.and_eq_true, wi_iff] at this
        exact this.1.1
      · intro x hx
        obtain ⟨i, hi, rfl⟩ := List.mem_iff_getElem.1 hx
        have := key i (by omega)
        simp only [ok3, Bool.and_eq_true, wi_iff] at this
        exact this.1.2
      · intro x hx
        obtain ⟨i, hi, rfl⟩ := List.mem_iff_getElem.1 hx
        have := key i (by omega)
        simp only [ok3, Bool.and_eq_true, wi_iff] at this
        exact this.2
    · rw [if_neg h2] at h; omega
  · rw [if_neg h1] at h; omega

/-- Fractions handed out, or ErrLarge. -/
def FrPost (l : List (Int × Int)) (n : Nat) (e' : Ending) (w' : World) : Prop :=
  (l.any (fun f => !smallF f) = true ∧ e' = .returned (.tuple #[.slice none 0 0, .int .i64 8])) ∨
  (l.any (fun f => !smallF f) = false ∧ ∃ a' c', e' = .returned (.tuple #[.slice a' n c', .int .i64 0]) ∧ PairsR w' a' n l)
/-- The initial voltages as fractions. -/
def initOf (s e : List Int) (n L : Nat) : List (Int × Int) := (numsOf s e n L).map (low · (dd s e L L))

set_option maxRecDepth 100000 in
theorem initialOf_bad (s e t : List Int) (a a1 a2 : Option Addr) (n c n1 c1 n2 c2 : Nat) (g : Bool) (w : World) (hs : IntsR w a n s) (he : IntsR w a1 n1 e) (ht : IntsR w a2 n2 t) (h : ladErr s e t ≠ 0) :
    Calls Try.prog 38 #[.agg #[.slice a n c, .slice a1 n1 c1, .slice a2 n2 c2, .bool g]] w fun e' w' => e' = .returned (.tuple #[.slice none 0 0, .int .i64 (ladErr s e t)]) ∧ Below w.heap.size w w' := by
  have HS := Lib.hid (fun (w' : World) (hb' : Below w.heap.size w w') => checkLadder_any s e t a a1 a2 n c n1 c1 n2 c2 g w' (hs.below hb') (he.below hb') (ht.below hb'))
  clear hs he ht
  generalize ladErr s e t = el at HS h
  have h1' : (el != 0) = true := by simpa using h
  clear h
  go_enter Try.func38, Try.ntmps38
  go_wp2_with fail
  refine (HS.out _ (by (repeat' (first | (with_reducible exact Below.refl _ _) | (with_reducible assumption) | (with_reducible refine Below.drewN ?_ _) | (with_reducible refine Below.alloc ?_ ?_ _) | (with_reducible refine Below.drew ?_) | (with_reducible refine Below.setCell ?_ ?_ _) | (with_reducible refine Below.step (by assumption) ?_ ?_) | (with_reducible exact And.left (by assumption)) | go_size)))).mono ?_
  rintro e5 w5 ⟨rfl, hb5⟩
  have hz5 := hb5.size
  go_wp2
  go_ret2
  exact ⟨rfl, by (repeat' (first | (with_reducible exact Below.refl _ _) | (with_reducible assumption) | (with_reducible refine Below.drewN ?_ _) | (with_reducible refine Below.alloc ?_ ?_ _) | (with_reducible refine Below.drew ?_) | (with_reducible refine Below.setCell ?_ ?_ _) | (with_reducible refine Below.step (by assumption) ?_ ?_) | (with_reducible exact And.left (by assumption)) | go_size))⟩
set_option maxHeartbeats 1000000 in
set_option maxRecDepth 100000 in
theorem initialOf_ok (s e t : List Int) (a a1 a2 : Option Addr) (n c n1 c1 n2 c2 L : Nat) (g : Bool) (w : World) (hs : IntsR w a n s) (he : IntsR w a1 n1 e) (ht : IntsR w a2 n2 t) (h : ladErr s e t = 0) (hL : lastOf n g = L) :
    Calls Try.prog 38 #[.agg #[.slice a n c, .slice a1 n1 c1, .slice a2 n2 c2, .bool g]] w fun e' w' => Below w.heap.size w w' ∧ FrPost (initOf s e n L) (n + 1) e' w' := by
  obtain ⟨h0, hel, htl, h6, bs, be, _⟩ := ladErr_zero h
  have HS := Lib.hid (fun (w' : World) (hb' : Below w.heap.size w w') => checkLadder_any s e t a a1 a2 n c n1 c1 n2 c2 g w' (hs.below hb') (he.below hb') (ht.below hb'))
  rw [h] at HS
  have hsl := hs.len
  rw [hsl] at h0 h6 hel htl
  rw [he.len] at hel
  rw [ht.len] at htl
  obtain rfl : n = n1 := hel.symm
  obtain rfl : n = n2 := htl.symm
  have hLb : L ≤ n ∧ n ≤ L + 1 := by
    unfold lastOf at hL
    split at hL <;> omega
  have HC := Lib.hid (fun (w' : World) => chainOf_any a a1 a2 n c n c1 n c2 g w')
  have HI := Lib.hid (fun (w' : World) (hb' : Below w.heap.size w w') => cinit_main s e a a1 n c n c1 L g w' (hs.below hb') (he.below hb') rfl h0 h6 hL hLb.1 hLb.2 (fun x hx => by have := bs x hx; omega) be)
  have hdp := dd_pos s e L bs be (by omega) L (Nat.le_refl _)
  have hdb := (dd_bd6 s e L (fun x hx => by have := bs x hx; omega) be L (by omega)).2
  have hnb := nums_bd s e n L bs be (by omega)
  have HF := Lib.hid (fun (w' : World) (a' : Option Addr) (c' : Nat) (hl : IntsR w' a' (n + 1) (numsOf s e n L)) => fractions_any (numsOf s e n L) (dd s e L L) a' (n + 1) c' w' hl (by omega) (fun x hx => by have := hnb x hx; omega) hdp (by omega))
  clear hs he ht h bs be hdp hdb hnb hsl hL
  go_enter Try.func38, Try.ntmps38
  go_wp2_with fail
  refine (HS.out _ (by (repeat' (first | (with_reducible exact Below.refl _ _) | (with_reducible assumption) | (with_reducible refine Below.drewN ?_ _) | (with_reducible refine Below.alloc ?_ ?_ _) | (with_reducible refine Below.drew ?_) | (with_reducible refine Below.setCell ?_ ?_ _) | (with_reducible refine Below.step (by assumption) ?_ ?_) | (with_reducible exact And.left (by assumption)) | go_size)))).mono ?_
  rintro e5 w5 ⟨rfl, hb5⟩
  have hz5 := hb5.size
  simp only [World.size_alloc] at hz5
  have q0 : w5.cell? ⟨w.heap.size, 0, none⟩ = some (.slice a n c) := by { rw [cellB hb5 _ _ (by first | (simp; done) | (simp; omega) | omega)]; all_goals (first | assumption | go_simp) }; have q1 : w5.cell? ⟨w.heap.size, 1, none⟩ = some (.slice a1 n c1) := by { rw [cellB hb5 _ _ (by first | (simp; done) | (simp; omega) | omega)]; all_goals (first | assumption | go_simp) }; have q2 : w5.cell? ⟨w.heap.size, 2, none⟩ = some (.slice a2 n c2) := by { rw [cellB hb5 _ _ (by first | (simp; done) | (simp; omega) | omega)]; all_goals (first | assumption | go_simp) }; have q3 : w5.cell? ⟨w.heap.size, 3, none⟩ = some (.bool g) := by { rw [cellB hb5 _ _ (by first | (simp; done) | (simp; omega) | omega)]; all_goals (first | assumption | go_simp) }; have l0 : w.heap.size < w5.heap.size := by { omega }
  have HB5 := Lib.hid (show Below w.heap.size w w5 by (repeat' (first | (with_reducible exact Below.refl _ _) | (with_reducible assumption) | (with_reducible refine Below.drewN ?_ _) | (with_reducible refine Below.alloc ?_ ?_ _) | (with_reducible refine Below.drew ?_) | (with_reducible refine Below.setCell ?_ ?_ _) | (with_reducible refine Below.step (by assumption) ?_ ?_) | (with_reducible exact And.left (by assumption)) | go_size)))
  clear hb5 HS
  go_wp2_with fail
  refine (HC.out _).mono ?_
  rintro e6 w6 ⟨rfl, hb6⟩
  have HB6 := Lib.hid (HB5.out.trans (hb6.mono HB5.out.size))
  clear hb6 HC
  go_wp2_with fail
  refine (HI.out _ HB6.out).mono ?_
  rintro e7 w7 ⟨g7, rfl, hb7, hi7⟩
  have hb8 := HB6.out.trans (hb7.mono HB6.out.size)
  have HB7 := Lib.hid hb8
  have HFF := Lib.hid (HF.out w7 (some ⟨g7, 0, none⟩) (n + 1) hi7)
  obtain ⟨NN, hNN⟩ : ∃ NN, NN = (numsOf s e n L).map (low · (dd s e L L)) := ⟨_, rfl⟩
  rw [← hNN] at HFF
  have HNN := Lib.hid hNN
  generalize dd s e L L = den at HFF
  clear hNN hb7 hb8 HI HF hi7
  go_wp2_with fail
  refine HFF.out.mono ?_
  rintro e8 w8 ⟨hb8, hp⟩
  have HB8 := Lib.hid (HB7.out.trans (hb8.mono HB7.out.size))
  clear hb8
  rcases hp with ⟨hp1, rfl⟩ | ⟨hp1, a8, c8, rfl, hp2⟩
  · have HP := Lib.hid hp1
    clear hp1
    go_wp2
    go_ret2
    refine ⟨HB8.out, .inl ⟨?_, rfl⟩⟩
    unfold initOf; rw [← HNN.out]; exact HP.out
  · have HP := Lib.hid (And.intro hp1 hp2)
    clear hp1 hp2
    go_wp2
    go_ret2
    refine ⟨HB8.out, .inr ⟨?_, a8, c8, rfl, ?_⟩⟩
    · unfold initOf; rw [← HNN.out]; exact HP.out.1
    · unfold initOf; rw [← HNN.out]; exact HP.out.2
end Go.Proofs.Ytbjgklifmillgaa
