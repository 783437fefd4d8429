import Derived.Test.YtbjgklifmillgaaGreatAwake
import Derived.Test.YtbjgklifmillgaaGreatMBr
import Derived.Test.YtbjgklifmillgaaGreatMRp2
import Derived.Test.YtbjgklifmillgaaGreatMRr
import Derived.Test.YtbjgklifmillgaaGreatMSch
/- Ranks in the reference: Ranked. -/
namespace Go.Proofs.YtbjgklifmillgaaGreat
open Go.RowKit
set_option linter.unusedVariables false

theorem stq_absR (v : Int) (a b : Int × Int) (L : Int) : stq v a b L = (v : Rat) * absR (Rat.divInt a.1 a.2 - Rat.divInt b.1 b.2) / (L : Rat) := by
  unfold stq absQ absR
  have h : ∀ q : Rat, (q.num < 0) = (q < 0) := fun q => by
    apply propext
    rw [← (sign_num q).2.2]
    constructor
    · intro h; rw [Int.sign_eq_neg_one_of_neg h]; decide
    · intro h
      rcases Int.lt_trichotomy q.num 0 with h2 | h2 | h2
      · exact h2
      · rw [h2] at h; simp at h
      · rw [Int.sign_eq_one_of_pos h2] at h; omega
  simp only [h]
set_option maxHeartbeats 8000000 in
set_option maxRecDepth 100000 in
theorem ranked_any (v : Int) (u : List (Int × Int)) (l : List PathV) (S : List RankV) (a a2 : Option Addr) (m c n c2 : Nat) (w : World) (hu : PairsR w a m u) (hl : PathsR w a2 n l) (hv : 1 ≤ v ∧ v ≤ 1000000) (hdst : dstErr u m = 0) (hn : n ≤ 12)
    (hok : ∀ (i : Nat) (p : PathV), i < n → l[i]? = some p → pthErr p (l.take i) m = 0)
    (hS : (∀ p ∈ l, smallQ (stOf v u p) = true) → S.Perm (l.map (rkOf v u)) ∧ (∀ (i j : Nat) (x y : RankV), i < j → S[i]? = some x → S[j]? = some y → rkL y x = false) ∧ ∀ (i j : Nat) (x y : RankV), S[i]? = some x → S[j]? = some y → x.nm.toList = y.nm.toList → i = j) :
    Calls Tryz.prog 23 #[.int .i64 v, .slice a m c, .slice a2 n c2] w fun e' w' => Below w.heap.size w w' ∧
      (((∃ p ∈ l, smallQ (stOf v u p) = false) ∧ e' = .returned (.tuple #[.slice none 0 0, .int .i64 8])) ∨
       ((∀ p ∈ l, smallQ (stOf v u p) = true) ∧ ∃ a3 c3, e' = .returned (.tuple #[.slice a3 n c3, .int .i64 0]) ∧ RanksR w' a3 n S)) := by
  have HDS := Lib.hid (dst_ok hdst)
  have HPO := Lib.hid (fun (i : Nat) (p : PathV) (hi : i < n) (hp : l[i]? = some p) => pth_ok (hok i p hi hp))
  have HU := Lib.hid hu
  have HL := Lib.hid hl
  have HLN := Lib.hid (ER.len hl)
  have HSX := Lib.hid hS
  clear hu hl hS hok hdst
  go_enter Tryz.func23, Tryz.ntmps23
  go_wp2
  go_loopw [9, 8] (fun i x wr => ∃ (k : Nat) (av : Option Addr) (cv : Nat), i = .int .i64 k ∧ x = .slice av k cv ∧ k ≤ n ∧ Hid (wr.ownsRow w.heap.size 122 4 (.slice av k cv) k (ecells rEnc ((l.take k).map (rkOf v u)))) ∧ Hid (∀ i p, i < k → l[i]? = some p → smallQ (stOf v u p) = true) ∧ Hid (Below w.heap.size w wr)) (fun i _ _ => n - (intOf i).toNat)
  case atStart => exact ⟨0, none, 0, rfl, rfl, Nat.zero_le _, Lib.hid (World.ownsRow_nil _ _ _ _), Lib.hid (fun i p hi _ => by omega), Lib.hid (Below.refl _ _)⟩
  case round =>
    obtain ⟨k, av, cv, rfl, rfl, hk, hO, hS, hBr⟩ := hrel
    obtain ⟨w8, rfl⟩ : ∃ w', w' = wr := ⟨wr, rfl⟩
    have HO8 := Lib.hid hO.out
    have HS8 := Lib.hid hS.out
    have HB8 := Lib.hid hBr.out
    have hz8 := HB8.out.size
    clear hO hS hBr
    rcases Nat.lt_or_ge k n with hlt | hge
    · obtain ⟨b, o, rfl, hb, hcu⟩ := PathsR.addr HL.out (by omega)
      obtain ⟨bu, ou, rfl, lbu, hcv⟩ := HU.out.addr (by have := HDS.out.1; omega)
      obtain ⟨⟨s, f, t, len, lim⟩, hx⟩ := ER.get HL.out hlt
      obtain ⟨q0, q1, q2, q3, q4⟩ := hcu k _ hx
      rw [← cellB HB8.out _ _ hb] at q0 q1 q2 q3 q4
      obtain ⟨_, _, ⟨f0, f1⟩, ⟨t0, t1⟩, _, ⟨g0, g1⟩, ⟨i0, i1⟩⟩ := HPO.out k _ hlt hx
      simp only at f0 f1 t0 t1 g0 g1 i0 i1
      obtain ⟨fn, rfl⟩ : ∃ z : Nat, f = (z : Int) := ⟨f.toNat, by omega⟩
      obtain ⟨tn, rfl⟩ : ∃ z : Nat, t = (z : Int) := ⟨t.toNat, by omega⟩
      obtain ⟨Ln, rfl⟩ : ∃ z : Nat, len = (z : Int) := ⟨len.toNat, by omega⟩
      have fo1 := frE_ok (HDS.out.2.2 fn (by omega))
      have fo2 := frE_ok (HDS.out.2.2 tn (by omega))
      have cu0 := (hcv fn (by omega)).1
      have cu1 := (hcv fn (by omega)).2
      have cv0 := (hcv tn (by omega)).1
      have cv1 := (hcv tn (by omega)).2
      rw [← cellB HB8.out _ _ lbu] at cu0 cu1 cv0 cv1
      have hqe : stOf v u ⟨s, fn, tn, Ln, lim⟩ = stq v (gp u fn) (gp u tn) (Ln : Int) := by unfold stOf; simp
      have hrk : rkOf v u ⟨s, fn, tn, Ln, lim⟩ = ⟨s, stq v (gp u fn) (gp u tn) (Ln : Int), decide ((stq v (gp u fn) (gp u tn) (Ln : Int)).num ≤ lim * ((stq v (gp u fn) (gp u tn) (Ln : Int)).den : Int))⟩ := by unfold rkOf; rw [hqe]
      have hqq := stq_absR v (gp u fn) (gp u tn) (Ln : Int)
      change _ = some (Value.int .i64 (gp u fn).1) at cu0
      change _ = some (Value.int .i64 (gp u fn).2) at cu1
      change _ = some (Value.int .i64 (gp u tn).1) at cv0
      change _ = some (Value.int .i64 (gp u tn).2) at cv1
      generalize stq v (gp u fn) (gp u tn) (Ln : Int) = q at *
      generalize gp u fn = A at *
      generalize gp u tn = B at *
      obtain ⟨a1, a2⟩ := A
      obtain ⟨b1, b2⟩ := B
      unfold FrOk at fo1 fo2
      simp only at cu0 cu1 cv0 cv1 fo1 fo2 hqq
      have HSZ := Lib.hid (show Sz 2 (Rat.divInt a1 a2) ∧ Sz 2 (Rat.divInt b1 b2) from ⟨sz_parts (by omega) (by omega), sz_parts (by omega) (by omega)⟩)
      have HSD := Lib.hid (show Sz 5 (Rat.divInt a1 a2 - Rat.divInt b1 b2) from sz_sub (K := 2) (M := 2) HSZ.out.1 HSZ.out.2)
      have HSA := Lib.hid (show Sz 7 (absR (Rat.divInt a1 a2 - Rat.divInt b1 b2)) from sz_absR (K := 5) HSD.out)
      have HSV := Lib.hid (show Sz 1 (v : Rat) ∧ Sz 1 ((Ln : Int) : Rat) ∧ ((Ln : Int) : Rat) ≠ 0 from ⟨sz_int (by omega) (by omega), sz_int (by omega) (by omega), fun h => by
        have h2 : (Ln : Int) = 0 := by exact_mod_cast h
        omega⟩)
      have HQE := Lib.hid hqe
      have HRK := Lib.hid hrk
      have HQQ := Lib.hid hqq
      have HX0 := Lib.hid hx
      have k0 : (0 : Int) ≤ (k : Int) := by omega
      have k1 : (k : Int) < (n : Int) := by omega
      have fn1 : (fn : Int) < (m : Int) := by omega
      have tn1 : (tn : Int) < (m : Int) := by omega
      have lb8 : b < w8.heap.size := by omega
      have lu8 : bu < w8.heap.size := by omega
      have q08 := q0
      have q18 := q1
      have q28 := q2
      have q38 := q3
      have q48 := q4
      clear hcu hcv hqe hrk hx hqq
      go_wp2_with fail
      go_cut [10] from 23 to 41 (fun v10 wx => ∃ (X : Nat) (s9 t9 : Int) (a9 b9 : Option Addr) (n9 c9 m9 d9 : Nat), v10 = .pointer (some ⟨X, 0, none⟩) ∧ Hid (wx.heap[X]? = some (.cells #[.int .i64 s9, .slice a9 n9 c9, .int .i64 t9, .slice b9 m9 d9] 101)) ∧ w8.heap.size ≤ X ∧ Hid (RB wx (.agg #[.int .i64 s9, .slice a9 n9 c9, .int .i64 t9, .slice b9 m9 d9]) (Rat.divInt a1 a2 - Rat.divInt b1 b2)) ∧ Hid (Below w8.heap.size w8 wx))
      case first =>
        have HN := Lib.hid (Below.refl w8.heap.size w8).drew
        refine wp_region_laterT (B := w8.heap.size) (.head 0 (.head 1 (.head 2 (.head 3 (.head 4 (.head 5 (.head 6 (.head 7 (.head 9 (.head 10 (.head 11 (.head 12 (.head 13 (.head 14 (.head 15 (.head 16 (.two 8 (.two 17 (.two 18 (.one 19 (.one 20 .done)) 19 (.one 18 (.one 20 .done))) 19 (.one 17 (.one 18 (.one 20 .done)))) 19 (.one 8 (.one 17 (.one 18 (.one 20 .done))))))))))))))))))))) (by kernel_rfl) (by kernel_rfl) ?_
        repeat (refine tree_head rfl ?_; (show wpQuiet _ _ _ _ (_ :: _) _; go_big_quiet_step (fail)); refine wpQuiet_nil ?_)
        refine tree_two rfl rfl ?_ ?_
        · go_wp2_with fail
          refine (rb_from a1 a2 _ (by omega) (by omega) (by omega) (by omega) (by omega)).mono ?_
          rintro ex wx1 ⟨sA, aA, nA, cA, tA, bA, mA, dA, rfl, hbx, hA, _⟩
          have HA := Lib.hid hA
          clear hA
          have hzx := hbx.size
          have HN := Lib.hid (HN.out.trans (hbx.mono HN.out.size))
          clear hbx
          go_wp2_with fail
          refine tailL_mk HN.out ?_
          repeat (refine tree_head rfl ?_; (show wpQuiet _ _ _ _ (_ :: _) _; go_big_quiet_step (fail)); refine wpQuiet_nil ?_)
          refine tree_two rfl rfl ?_ ?_
          · go_wp2_with fail
            refine (rb_from b1 b2 _ (by omega) (by omega) (by omega) (by omega) (by omega)).mono ?_
            rintro ex wx2 ⟨sB, aB, nB, cB, tB, bB, mB, dB, rfl, hbx, hB, _⟩
            have HB := Lib.hid hB
            clear hB
            have hzx := hbx.size
            have HN := Lib.hid (HN.out.trans (hbx.mono HN.out.size))
            have HA := Lib.hid (HA.out.below hbx)
            clear hbx
            go_wp2_with fail
            refine tailL_mk HN.out ?_
            repeat (refine tree_head rfl ?_; (show wpQuiet _ _ _ _ (_ :: _) _; go_big_quiet_step (fail)); refine wpQuiet_nil ?_)
            refine tree_two rfl rfl ?_ ?_
            · go_wp2_with fail
              refine (rb_sub _ _ _ _ 2 2 _ HA.out HB.out HSZ.out.1 HSZ.out.2 (by omega)).mono ?_
              rintro ex wx3 ⟨sS, aS, nS, cS, tS, bS, mS, dS, rfl, hbx, hS, hSs⟩
              have HS := Lib.hid hS
              have HS := Lib.hid hSs.out.here
              clear hS hSs
              have hzx := hbx.size
              have HN := Lib.hid (HN.out.trans (hbx.mono HN.out.size))
              have HA := Lib.hid (HA.out.below hbx)
              have HB := Lib.hid (HB.out.below hbx)
              clear hbx
              go_wp2_with fail
              refine tailL_mk HN.out ?_
              repeat (refine tree_head rfl ?_; (show wpQuiet _ _ _ _ (_ :: _) _; go_big_quiet_step (fail)); refine wpQuiet_nil ?_)
              refine tree_one rfl ?_
              go_wp2_with fail
              obtain ⟨X9, hX9⟩ : ∃ X, X = wx3.heap.size := ⟨_, rfl⟩
              have hNX : w8.heap.size ≤ X9 := by rw [hX9]; exact HN.out.size
              have hx9 : (wx3.alloc (Obj.cells #[.int .i64 0, .slice none 0 0, .int .i64 0, .slice none 0 0] 101)).heap[X9]? = some (.cells #[.int .i64 0, .slice none 0 0, .int .i64 0, .slice none 0 0] 101) := by rw [hX9]; exact heap_alloc_new _ _
              have l9 : X9 < (wx3.alloc (Obj.cells #[.int .i64 0, .slice none 0 0, .int .i64 0, .slice none 0 0] 101)).heap.size := by rw [hX9]; simp
              have hs9 : (wx3.alloc (Obj.cells #[.int .i64 0, .slice none 0 0, .int .i64 0, .slice none 0 0] 101)).heap.size = wx3.heap.size + 1 := by simp
              have hbx : Below wx3.heap.size wx3 (wx3.alloc (Obj.cells #[.int .i64 0, .slice none 0 0, .int .i64 0, .slice none 0 0] 101)) := by (repeat' (first | (with_reducible exact Below.refl _ _) | (with_reducible assumption) | (with_reducible refine Below.drewN ?_ _) | (with_reducible refine Below.alloc ?_ ?_ _) | (with_reducible refine Below.drew ?_) | (with_reducible refine Below.setCell ?_ ?_ _) | (with_reducible refine Below.step (by assumption) ?_ ?_) | (with_reducible exact And.left (by assumption)) | go_size))
              try simp only [← hX9]
              generalize (wx3.alloc (Obj.cells #[.int .i64 0, .slice none 0 0, .int .i64 0, .slice none 0 0] 101)) = wx4 at *
              have HX9 := Lib.hid (And.intro hX9 hs9)
              have HN := Lib.hid (HN.out.trans (hbx.mono HN.out.size))
              have HA := Lib.hid (HA.out.below hbx)
              have HB := Lib.hid (HB.out.below hbx)
              have HS := Lib.hid (HS.out.below hbx)
              clear hbx hX9 hs9
              refine tailL_mk HN.out ?_
              repeat (refine tree_head rfl ?_; (show wpQuiet _ _ _ _ (_ :: _) _; go_big_quiet_step (fail)); refine wpQuiet_nil ?_)
              refine tree_one rfl ?_
              have c90 := cell_of_row _ _ 0 _ _ _ hx9
              have f90 := frozen_of_row _ _ 0 _ _ hx9
              have c91 := cell_of_row _ _ 1 _ _ _ hx9
              have f91 := frozen_of_row _ _ 1 _ _ hx9
              have c92 := cell_of_row _ _ 2 _ _ _ hx9
              have f92 := frozen_of_row _ _ 2 _ _ hx9
              have c93 := cell_of_row _ _ 3 _ _ _ hx9
              have f93 := frozen_of_row _ _ 3 _ _ hx9
              simp only [List.getElem?_toArray, List.getElem?_cons_zero, List.getElem?_cons_succ] at c90 c91 c92 c93
              go_wp2_with fail
              have HN := Lib.hid (show Below w8.heap.size w8 ((((wx4.setCell ⟨X9, 0, none⟩ (.int .i64 sS)).setCell ⟨X9, 1, none⟩ (.slice aS nS cS)).setCell ⟨X9, 2, none⟩ (.int .i64 tS)).setCell ⟨X9, 3, none⟩ (.slice bS mS dS)) from Below.setCell (Below.setCell (Below.setCell (Below.setCell (HN.out) hNX _) hNX _) hNX _) hNX _)
              have hxo := hx9
              have hx9 : ((((wx4.setCell ⟨X9, 0, none⟩ (.int .i64 sS)).setCell ⟨X9, 1, none⟩ (.slice aS nS cS)).setCell ⟨X9, 2, none⟩ (.int .i64 tS)).setCell ⟨X9, 3, none⟩ (.slice bS mS dS)).heap[X9]? = some (.cells #[.int .i64 sS, .slice aS nS cS, .int .i64 tS, .slice bS mS dS] 101) := blk_set (blk_set (blk_set (blk_set (hx9) 0 (.int .i64 sS)) 1 (.slice aS nS cS)) 2 (.int .i64 tS)) 3 (.slice bS mS dS)
              refine tailL_mk HN.out ?_
              repeat (refine tree_head rfl ?_; (show wpQuiet _ _ _ _ (_ :: _) _; go_big_quiet_step (fail)); refine wpQuiet_nil ?_)
              refine tree_done ?_
              go_wp2_with fail
              have HR := Lib.hid (RB.put2 (X := X9) HS.out (fun b hb => by
                obtain ⟨hX9, hsz9⟩ := HX9.out
                (try simp only [World.size_drew] at *)
                omega))
              go_meet
              case rel => exact ⟨X9, sS, tS, aS, bS, nS, cS, mS, dS, rfl, Lib.hid hx9, hNX, HR, HN⟩
            · go_wp2_with fail
              obtain ⟨X9, hX9⟩ : ∃ X, X = wx2.heap.size := ⟨_, rfl⟩
              have hNX : w8.heap.size ≤ X9 := by rw [hX9]; exact HN.out.size
              have hx9 : (wx2.alloc (Obj.cells #[.int .i64 0, .slice none 0 0, .int .i64 0, .slice none 0 0] 101)).heap[X9]? = some (.cells #[.int .i64 0, .slice none 0 0, .int .i64 0, .slice none 0 0] 101) := by rw [hX9]; exact heap_alloc_new _ _
              have l9 : X9 < (wx2.alloc (Obj.cells #[.int .i64 0, .slice none 0 0, .int .i64 0, .slice none 0 0] 101)).heap.size := by rw [hX9]; simp
              have hs9 : (wx2.alloc (Obj.cells #[.int .i64 0, .slice none 0 0, .int .i64 0, .slice none 0 0] 101)).heap.size = wx2.heap.size + 1 := by simp
              have hbx : Below wx2.heap.size wx2 (wx2.alloc (Obj.cells #[.int .i64 0, .slice none 0 0, .int .i64 0, .slice none 0 0] 101)) := by (repeat' (first | (with_reducible exact Below.refl _ _) | (with_reducible assumption) | (with_reducible refine Below.drewN ?_ _) | (with_reducible refine Below.alloc ?_ ?_ _) | (with_reducible refine Below.drew ?_) | (with_reducible refine Below.setCell ?_ ?_ _) | (with_reducible refine Below.step (by assumption) ?_ ?_) | (with_reducible exact And.left (by assumption)) | go_size))
              try simp only [← hX9]
              generalize (wx2.alloc (Obj.cells #[.int .i64 0, .slice none 0 0, .int .i64 0, .slice none 0 0] 101)) = wx6 at *
              have HX9 := Lib.hid (And.intro hX9 hs9)
              have HN := Lib.hid (HN.out.trans (hbx.mono HN.out.size))
              have HA := Lib.hid (HA.out.below hbx)
              have HB := Lib.hid (HB.out.below hbx)
              clear hbx hX9 hs9
              refine tailL_mk HN.out ?_
              repeat (refine tree_head rfl ?_; (show wpQuiet _ _ _ _ (_ :: _) _; go_big_quiet_step (fail)); refine wpQuiet_nil ?_)
              refine tree_one rfl ?_
              go_wp2_with fail
              refine (rb_sub _ _ _ _ 2 2 _ HA.out HB.out HSZ.out.1 HSZ.out.2 (by omega)).mono ?_
              rintro ex wx7 ⟨sS, aS, nS, cS, tS, bS, mS, dS, rfl, hbx, hS, hSs⟩
              have HS := Lib.hid hS
              have HS := Lib.hid hSs.out.here
              clear hS hSs
              have hzx := hbx.size
              have HN := Lib.hid (HN.out.trans (hbx.mono HN.out.size))
              have HA := Lib.hid (HA.out.below hbx)
              have HB := Lib.hid (HB.out.below hbx)
              have hx9 := (hbx.block X9 l9).trans hx9
              have l9 := Nat.lt_of_lt_of_le l9 hbx.size
              clear hbx
              go_wp2_with fail
              refine tailL_mk HN.out ?_
              repeat (refine tree_head rfl ?_; (show wpQuiet _ _ _ _ (_ :: _) _; go_big_quiet_step (fail)); refine wpQuiet_nil ?_)
              refine tree_one rfl ?_
              have c90 := cell_of_row _ _ 0 _ _ _ hx9
              have f90 := frozen_of_row _ _ 0 _ _ hx9
              have c91 := cell_of_row _ _ 1 _ _ _ hx9
              have f91 := frozen_of_row _ _ 1 _ _ hx9
              have c92 := cell_of_row _ _ 2 _ _ _ hx9
              have f92 := frozen_of_row _ _ 2 _ _ hx9
              have c93 := cell_of_row _ _ 3 _ _ _ hx9
              have f93 := frozen_of_row _ _ 3 _ _ hx9
              simp only [List.getElem?_toArray, List.getElem?_cons_zero, List.getElem?_cons_succ] at c90 c91 c92 c93
              go_wp2_with fail
              have HN := Lib.hid (show Below w8.heap.size w8 ((((wx7.setCell ⟨X9, 0, none⟩ (.int .i64 sS)).setCell ⟨X9, 1, none⟩ (.slice aS nS cS)).setCell ⟨X9, 2, none⟩ (.int .i64 tS)).setCell ⟨X9, 3, none⟩ (.slice bS mS dS)) from Below.setCell (Below.setCell (Below.setCell (Below.setCell (HN.out) hNX _) hNX _) hNX _) hNX _)
              have hxo := hx9
              have hx9 : ((((wx7.setCell ⟨X9, 0, none⟩ (.int .i64 sS)).setCell ⟨X9, 1, none⟩ (.slice aS nS cS)).setCell ⟨X9, 2, none⟩ (.int .i64 tS)).setCell ⟨X9, 3, none⟩ (.slice bS mS dS)).heap[X9]? = some (.cells #[.int .i64 sS, .slice aS nS cS, .int .i64 tS, .slice bS mS dS] 101) := blk_set (blk_set (blk_set (blk_set (hx9) 0 (.int .i64 sS)) 1 (.slice aS nS cS)) 2 (.int .i64 tS)) 3 (.slice bS mS dS)
              refine tailL_mk HN.out ?_
              repeat (refine tree_head rfl ?_; (show wpQuiet _ _ _ _ (_ :: _) _; go_big_quiet_step (fail)); refine wpQuiet_nil ?_)
              refine tree_done ?_
              go_wp2_with fail
              have HR := Lib.hid (RB.put2 (X := X9) HS.out (fun b hb => by
                obtain ⟨hX9, hsz9⟩ := HX9.out
                (try simp only [World.size_drew] at *)
                omega))
              go_meet
              case rel => exact ⟨X9, sS, tS, aS, bS, nS, cS, mS, dS, rfl, Lib.hid hx9, hNX, HR, HN⟩
          · go_wp2_with fail
            obtain ⟨X9, hX9⟩ : ∃ X, X = wx1.heap.size := ⟨_, rfl⟩
            have hNX : w8.heap.size ≤ X9 := by rw [hX9]; exact HN.out.size
            have hx9 : (wx1.alloc (Obj.cells #[.int .i64 0, .slice none 0 0, .int .i64 0, .slice none 0 0] 101)).heap[X9]? = some (.cells #[.int .i64 0, .slice none 0 0, .int .i64 0, .slice none 0 0] 101) := by rw [hX9]; exact heap_alloc_new _ _
            have l9 : X9 < (wx1.alloc (Obj.cells #[.int .i64 0, .slice none 0 0, .int .i64 0, .slice none 0 0] 101)).heap.size := by rw [hX9]; simp
            have hs9 : (wx1.alloc (Obj.cells #[.int .i64 0, .slice none 0 0, .int .i64 0, .slice none 0 0] 101)).heap.size = wx1.heap.size + 1 := by simp
            have hbx : Below wx1.heap.size wx1 (wx1.alloc (Obj.cells #[.int .i64 0, .slice none 0 0, .int .i64 0, .slice none 0 0] 101)) := by (repeat' (first | (with_reducible exact Below.refl _ _) | (with_reducible assumption) | (with_reducible refine Below.drewN ?_ _) | (with_reducible refine Below.alloc ?_ ?_ _) | (with_reducible refine Below.drew ?_) | (with_reducible refine Below.setCell ?_ ?_ _) | (with_reducible refine Below.step (by assumption) ?_ ?_) | (with_reducible exact And.left (by assumption)) | go_size))
            try simp only [← hX9]
            generalize (wx1.alloc (Obj.cells #[.int .i64 0, .slice none 0 0, .int .i64 0, .slice none 0 0] 101)) = wx9 at *
            have HX9 := Lib.hid (And.intro hX9 hs9)
            have HN := Lib.hid (HN.out.trans (hbx.mono HN.out.size))
            have HA := Lib.hid (HA.out.below hbx)
            clear hbx hX9 hs9
            refine tailL_mk HN.out ?_
            repeat (refine tree_head rfl ?_; (show wpQuiet _ _ _ _ (_ :: _) _; go_big_quiet_step (fail)); refine wpQuiet_nil ?_)
            refine tree_one rfl ?_
            go_wp2_with fail
            refine (rb_from b1 b2 _ (by omega) (by omega) (by omega) (by omega) (by omega)).mono ?_
            rintro ex wx10 ⟨sB, aB, nB, cB, tB, bB, mB, dB, rfl, hbx, hB, _⟩
            have HB := Lib.hid hB
            clear hB
            have hzx := hbx.size
            have HN := Lib.hid (HN.out.trans (hbx.mono HN.out.size))
            have HA := Lib.hid (HA.out.below hbx)
            have hx9 := (hbx.block X9 l9).trans hx9
            have l9 := Nat.lt_of_lt_of_le l9 hbx.size
            clear hbx
            go_wp2_with fail
            refine tailL_mk HN.out ?_
            repeat (refine tree_head rfl ?_; (show wpQuiet _ _ _ _ (_ :: _) _; go_big_quiet_step (fail)); refine wpQuiet_nil ?_)
            refine tree_one rfl ?_
            go_wp2_with fail
            refine (rb_sub _ _ _ _ 2 2 _ HA.out HB.out HSZ.out.1 HSZ.out.2 (by omega)).mono ?_
            rintro ex wx11 ⟨sS, aS, nS, cS, tS, bS, mS, dS, rfl, hbx, hS, hSs⟩
            have HS := Lib.hid hS
            have HS := Lib.hid hSs.out.here
            clear hS hSs
            have hzx := hbx.size
            have HN := Lib.hid (HN.out.trans (hbx.mono HN.out.size))
            have HA := Lib.hid (HA.out.below hbx)
            have HB := Lib.hid (HB.out.below hbx)
            have hx9 := (hbx.block X9 l9).trans hx9
            have l9 := Nat.lt_of_lt_of_le l9 hbx.size
            clear hbx
            go_wp2_with fail
            refine tailL_mk HN.out ?_
            repeat (refine tree_head rfl ?_; (show wpQuiet _ _ _ _ (_ :: _) _; go_big_quiet_step (fail)); refine wpQuiet_nil ?_)
            refine tree_one rfl ?_
            have c90 := cell_of_row _ _ 0 _ _ _ hx9
            have f90 := frozen_of_row _ _ 0 _ _ hx9
            have c91 := cell_of_row _ _ 1 _ _ _ hx9
            have f91 := frozen_of_row _ _ 1 _ _ hx9
            have c92 := cell_of_row _ _ 2 _ _ _ hx9
            have f92 := frozen_of_row _ _ 2 _ _ hx9
            have c93 := cell_of_row _ _ 3 _ _ _ hx9
            have f93 := frozen_of_row _ _ 3 _ _ hx9
            simp only [List.getElem?_toArray, List.getElem?_cons_zero, List.getElem?_cons_succ] at c90 c91 c92 c93
            go_wp2_with fail
            have HN := Lib.hid (show Below w8.heap.size w8 ((((wx11.setCell ⟨X9, 0, none⟩ (.int .i64 sS)).setCell ⟨X9, 1, none⟩ (.slice aS nS cS)).setCell ⟨X9, 2, none⟩ (.int .i64 tS)).setCell ⟨X9, 3, none⟩ (.slice bS mS dS)) from Below.setCell (Below.setCell (Below.setCell (Below.setCell (HN.out) hNX _) hNX _) hNX _) hNX _)
            have hxo := hx9
            have hx9 : ((((wx11.setCell ⟨X9, 0, none⟩ (.int .i64 sS)).setCell ⟨X9, 1, none⟩ (.slice aS nS cS)).setCell ⟨X9, 2, none⟩ (.int .i64 tS)).setCell ⟨X9, 3, none⟩ (.slice bS mS dS)).heap[X9]? = some (.cells #[.int .i64 sS, .slice aS nS cS, .int .i64 tS, .slice bS mS dS] 101) := blk_set (blk_set (blk_set (blk_set (hx9) 0 (.int .i64 sS)) 1 (.slice aS nS cS)) 2 (.int .i64 tS)) 3 (.slice bS mS dS)
            refine tailL_mk HN.out ?_
            repeat (refine tree_head rfl ?_; (show wpQuiet _ _ _ _ (_ :: _) _; go_big_quiet_step (fail)); refine wpQuiet_nil ?_)
            refine tree_done ?_
            go_wp2_with fail
            have HR := Lib.hid (RB.put2 (X := X9) HS.out (fun b hb => by
              obtain ⟨hX9, hsz9⟩ := HX9.out
              (try simp only [World.size_drew] at *)
              omega))
            go_meet
            case rel => exact ⟨X9, sS, tS, aS, bS, nS, cS, mS, dS, rfl, Lib.hid hx9, hNX, HR, HN⟩
        · go_wp2_with fail
          obtain ⟨X9, hX9⟩ : ∃ X, X = w8.heap.size := ⟨_, rfl⟩
          have hNX : w8.heap.size ≤ X9 := by rw [hX9]; exact HN.out.size
          have hx9 : (w8.alloc (Obj.cells #[.int .i64 0, .slice none 0 0, .int .i64 0, .slice none 0 0] 101)).drew.heap[X9]? = some (.cells #[.int .i64 0, .slice none 0 0, .int .i64 0, .slice none 0 0] 101) := by rw [hX9]; exact heap_alloc_new _ _
          have l9 : X9 < (w8.alloc (Obj.cells #[.int .i64 0, .slice none 0 0, .int .i64 0, .slice none 0 0] 101)).drew.heap.size := by rw [hX9]; simp
          have hs9 : (w8.alloc (Obj.cells #[.int .i64 0, .slice none 0 0, .int .i64 0, .slice none 0 0] 101)).drew.heap.size = w8.heap.size + 1 := by simp
          have hbx : Below w8.heap.size w8 (w8.alloc (Obj.cells #[.int .i64 0, .slice none 0 0, .int .i64 0, .slice none 0 0] 101)).drew := by (repeat' (first | (with_reducible exact Below.refl _ _) | (with_reducible assumption) | (with_reducible refine Below.drewN ?_ _) | (with_reducible refine Below.alloc ?_ ?_ _) | (with_reducible refine Below.drew ?_) | (with_reducible refine Below.setCell ?_ ?_ _) | (with_reducible refine Below.step (by assumption) ?_ ?_) | (with_reducible exact And.left (by assumption)) | go_size))
          try simp only [← hX9]
          generalize (w8.alloc (Obj.cells #[.int .i64 0, .slice none 0 0, .int .i64 0, .slice none 0 0] 101)).drew = wx13 at *
          have HX9 := Lib.hid (And.intro hX9 hs9)
          have HN := Lib.hid hbx
          clear hbx hX9 hs9
          refine tailL_mk HN.out ?_
          repeat (refine tree_head rfl ?_; (show wpQuiet _ _ _ _ (_ :: _) _; go_big_quiet_step (fail)); refine wpQuiet_nil ?_)
          refine tree_one rfl ?_
          go_wp2_with fail
          refine (rb_from a1 a2 _ (by omega) (by omega) (by omega) (by omega) (by omega)).mono ?_
          rintro ex wx14 ⟨sA, aA, nA, cA, tA, bA, mA, dA, rfl, hbx, hA, _⟩
          have HA := Lib.hid hA
          clear hA
          have hzx := hbx.size
          have HN := Lib.hid (HN.out.trans (hbx.mono HN.out.size))
          have hx9 := (hbx.block X9 l9).trans hx9
          have l9 := Nat.lt_of_lt_of_le l9 hbx.size
          clear hbx
          go_wp2_with fail
          refine tailL_mk HN.out ?_
          repeat (refine tree_head rfl ?_; (show wpQuiet _ _ _ _ (_ :: _) _; go_big_quiet_step (fail)); refine wpQuiet_nil ?_)
          refine tree_one rfl ?_
          go_wp2_with fail
          refine (rb_from b1 b2 _ (by omega) (by omega) (by omega) (by omega) (by omega)).mono ?_
          rintro ex wx15 ⟨sB, aB, nB, cB, tB, bB, mB, dB, rfl, hbx, hB, _⟩
          have HB := Lib.hid hB
          clear hB
          have hzx := hbx.size
          have HN := Lib.hid (HN.out.trans (hbx.mono HN.out.size))
          have HA := Lib.hid (HA.out.below hbx)
          have hx9 := (hbx.block X9 l9).trans hx9
          have l9 := Nat.lt_of_lt_of_le l9 hbx.size
          clear hbx
          go_wp2_with fail
          refine tailL_mk HN.out ?_
          repeat (refine tree_head rfl ?_; (show wpQuiet _ _ _ _ (_ :: _) _; go_big_quiet_step (fail)); refine wpQuiet_nil ?_)
          refine tree_one rfl ?_
          go_wp2_with fail
          refine (rb_sub _ _ _ _ 2 2 _ HA.out HB.out HSZ.out.1 HSZ.out.2 (by omega)).mono ?_
          rintro ex wx16 ⟨sS, aS, nS, cS, tS, bS, mS, dS, rfl, hbx, hS, hSs⟩
          have HS := Lib.hid hS
          have HS := Lib.hid hSs.out.here
          clear hS hSs
          have hzx := hbx.size
          have HN := Lib.hid (HN.out.trans (hbx.mono HN.out.size))
          have HA := Lib.hid (HA.out.below hbx)
          have HB := Lib.hid (HB.out.below hbx)
          have hx9 := (hbx.block X9 l9).trans hx9
          have l9 := Nat.lt_of_lt_of_le l9 hbx.size
          clear hbx
          go_wp2_with fail
          refine tailL_mk HN.out ?_
          repeat (refine tree_head rfl ?_; (show wpQuiet _ _ _ _ (_ :: _) _; go_big_quiet_step (fail)); refine wpQuiet_nil ?_)
          refine tree_one rfl ?_
          have c90 := cell_of_row _ _ 0 _ _ _ hx9
          have f90 := frozen_of_row _ _ 0 _ _ hx9
          have c91 := cell_of_row _ _ 1 _ _ _ hx9
          have f91 := frozen_of_row _ _ 1 _ _ hx9
          have c92 := cell_of_row _ _ 2 _ _ _ hx9
          have f92 := frozen_of_row _ _ 2 _ _ hx9
          have c93 := cell_of_row _ _ 3 _ _ _ hx9
          have f93 := frozen_of_row _ _ 3 _ _ hx9
          simp only [List.getElem?_toArray, List.getElem?_cons_zero, List.getElem?_cons_succ] at c90 c91 c92 c93
          go_wp2_with fail
          have HN := Lib.hid (show Below w8.heap.size w8 ((((wx16.setCell ⟨X9, 0, none⟩ (.int .i64 sS)).setCell ⟨X9, 1, none⟩ (.slice aS nS cS)).setCell ⟨X9, 2, none⟩ (.int .i64 tS)).setCell ⟨X9, 3, none⟩ (.slice bS mS dS)) from Below.setCell (Below.setCell (Below.setCell (Below.setCell (HN.out) hNX _) hNX _) hNX _) hNX _)
          have hxo := hx9
          have hx9 : ((((wx16.setCell ⟨X9, 0, none⟩ (.int .i64 sS)).setCell ⟨X9, 1, none⟩ (.slice aS nS cS)).setCell ⟨X9, 2, none⟩ (.int .i64 tS)).setCell ⟨X9, 3, none⟩ (.slice bS mS dS)).heap[X9]? = some (.cells #[.int .i64 sS, .slice aS nS cS, .int .i64 tS, .slice bS mS dS] 101) := blk_set (blk_set (blk_set (blk_set (hx9) 0 (.int .i64 sS)) 1 (.slice aS nS cS)) 2 (.int .i64 tS)) 3 (.slice bS mS dS)
          refine tailL_mk HN.out ?_
          repeat (refine tree_head rfl ?_; (show wpQuiet _ _ _ _ (_ :: _) _; go_big_quiet_step (fail)); refine wpQuiet_nil ?_)
          refine tree_done ?_
          go_wp2_with fail
          have HR := Lib.hid (RB.put2 (X := X9) HS.out (fun b hb => by
            obtain ⟨hX9, hsz9⟩ := HX9.out
            (try simp only [World.size_drew] at *)
            omega))
          go_meet
          case rel => exact ⟨X9, sS, tS, aS, bS, nS, cS, mS, dS, rfl, Lib.hid hx9, hNX, HR, HN⟩
      case rest =>
        obtain ⟨w9, rfl⟩ : ∃ w', w' = wc := ⟨wc, rfl⟩
        obtain ⟨X, s9, t9, a9, b9, n9, c9, m9, d9, rfl, HX, lX8, HR, HQ⟩ := hcut
        have hzq := HQ.out.size
        clear q0 q1 q2 q3 q4 cu0 cu1 cv0 cv1
        have q0 : w9.cell? ⟨b, o + k * 5, none⟩ = some (.string s) := by rw [cellB HQ.out _ _ lb8]; exact q08
        have q1 : w9.cell? ⟨b, o + k * 5 + 1, none⟩ = some (.int .i64 fn) := by rw [cellB HQ.out _ _ lb8]; exact q18
        have q2 : w9.cell? ⟨b, o + k * 5 + 2, none⟩ = some (.int .i64 tn) := by rw [cellB HQ.out _ _ lb8]; exact q28
        have q3 : w9.cell? ⟨b, o + k * 5 + 3, none⟩ = some (.int .i64 Ln) := by rw [cellB HQ.out _ _ lb8]; exact q38
        have q4 : w9.cell? ⟨b, o + k * 5 + 4, none⟩ = some (.int .i64 lim) := by rw [cellB HQ.out _ _ lb8]; exact q48
        have lw1 : b < w9.heap.size := Nat.lt_of_lt_of_le lb8 HQ.out.size
        have x0 := blk_cell HX.out (i := 0) rfl
        have x1 := blk_cell HX.out (i := 1) rfl
        have x2 := blk_cell HX.out (i := 2) rfl
        have x3 := blk_cell HX.out (i := 3) rfl
        have f0 := blk_fz HX.out 0
        have f1 := blk_fz HX.out 1
        have f2 := blk_fz HX.out 2
        have f3 := blk_fz HX.out 3
        have lX := blk_lt HX.out
        obtain ⟨D, hD⟩ : ∃ D, D = Rat.divInt a1 a2 - Rat.divInt b1 b2 := ⟨_, rfl⟩
        rw [← hD] at HR HSD HSA HQQ
        obtain ⟨Z, hZ⟩ : ∃ Z, Z = D.num.sign := ⟨_, rfl⟩
        have HSG := Lib.hid (fun vv w' h => rb_sign vv D w' h)
        rw [← hZ] at HSG
        have HZ := Lib.hid hZ
        clear hD hZ
        go_wp2_with fail
        refine (HSG.out _ _ HR.out).mono ?_
        rintro e10 wa ⟨rfl, hba⟩
        have HX := Lib.hid (blk_below HX.out hba)
        have HR := Lib.hid (HR.out.below hba)
        have HQ := Lib.hid (HQ.out.trans (hba.mono hzq))
        have hzq := HQ.out.size
        clear hba x0 x1 x2 x3 f0 f1 f2 f3 lX q0 q1 q2 q3 q4 lw1 HSG
        have q0 : wa.cell? ⟨b, o + k * 5, none⟩ = some (.string s) := by rw [cellB HQ.out _ _ lb8]; exact q08
        have q1 : wa.cell? ⟨b, o + k * 5 + 1, none⟩ = some (.int .i64 fn) := by rw [cellB HQ.out _ _ lb8]; exact q18
        have q2 : wa.cell? ⟨b, o + k * 5 + 2, none⟩ = some (.int .i64 tn) := by rw [cellB HQ.out _ _ lb8]; exact q28
        have q3 : wa.cell? ⟨b, o + k * 5 + 3, none⟩ = some (.int .i64 Ln) := by rw [cellB HQ.out _ _ lb8]; exact q38
        have q4 : wa.cell? ⟨b, o + k * 5 + 4, none⟩ = some (.int .i64 lim) := by rw [cellB HQ.out _ _ lb8]; exact q48
        have lw1 : b < wa.heap.size := Nat.lt_of_lt_of_le lb8 HQ.out.size
        have x0 := blk_cell HX.out (i := 0) rfl
        have x1 := blk_cell HX.out (i := 1) rfl
        have x2 := blk_cell HX.out (i := 2) rfl
        have x3 := blk_cell HX.out (i := 3) rfl
        have f0 := blk_fz HX.out 0
        have f1 := blk_fz HX.out 1
        have f2 := blk_fz HX.out 2
        have f3 := blk_fz HX.out 3
        have lX := blk_lt HX.out
        go_upto_if 44 with fail
        go_cut [10] from 44 to 47 (fun v10 wx => ∃ (s9 t9 : Int) (a9 b9 : Option Addr) (n9 c9 m9 d9 : Nat), v10 = .pointer (some ⟨X, 0, none⟩) ∧ Hid (wx.heap[X]? = some (.cells #[.int .i64 s9, .slice a9 n9 c9, .int .i64 t9, .slice b9 m9 d9] 101)) ∧ Hid (RB wx (.agg #[.int .i64 s9, .slice a9 n9 c9, .int .i64 t9, .slice b9 m9 d9]) (absR D)) ∧ Hid (Below w8.heap.size w8 wx))
        case first =>
          by_cases hZ0 : Z < 0
          · have HAB := Lib.hid (absR_neg (q := D) (by rw [← HZ.out]; exact hZ0))
            go_wp2_with fail
            have HN := Lib.hid (Below.refl wa.heap.size wa).drew
            refine wp_region_laterY (B := wa.heap.size) [1] [0, 2] [3] (by kernel_rfl) (by kernel_rfl) ?_; simp only [List.filterMap_cons, List.filterMap_nil, List.getElem?_cons_zero, List.getElem?_cons_succ]; repeat (show wpQuiet _ _ _ _ (_ :: _) _; go_big_quiet_step (fail))
            refine wpQuiet_nil ?_
            have HR := Lib.hid (HR.out.below (Below.refl _ _).drew)
            have HX := Lib.hid (blk_below HX.out (Below.refl _ _).drew)
            refine tailY_cons ?_
            go_wp2_with fail
            refine (rb_zero _).mono ?_
            rintro ex r1 ⟨sA, aA, nA, cA, tA, bA, mA, dA, rfl, hbx, hA, _⟩
            have HA := Lib.hid hA
            clear hA
            have hzx := hbx.size
            have HN := Lib.hid (HN.out.trans (hbx.mono HN.out.size))
            have HR := Lib.hid (HR.out.below hbx)
            have HX := Lib.hid (blk_below HX.out hbx)
            clear hbx
            go_wp2_with fail
            refine tailL_mk HN.out ?_
            refine tailY_cons ?_
            go_wp2_with fail
            refine (rb_sub _ _ _ _ 1 5 _ HA.out HR.out (by have := sz_int (n := 0) (by omega) (by omega); simpa using this) HSD.out (by omega)).mono ?_
            rintro ex r2 ⟨sS, aS, nS, cS, tS, bS, mS, dS, rfl, hbx, hS, hSs⟩
            have HS := Lib.hid hS
            have HS := Lib.hid hSs.out.here
            clear hS hSs
            have hzx := hbx.size
            have HN := Lib.hid (HN.out.trans (hbx.mono HN.out.size))
            have HR := Lib.hid (HR.out.below hbx)
            have HA := Lib.hid (HA.out.below hbx)
            have HX := Lib.hid (blk_below HX.out hbx)
            clear hbx
            go_wp2_with fail
            refine tailL_mk HN.out ?_
            refine tailY_ends ?_
            clear HR
            have x0 := blk_cell HX.out (i := 0) rfl
            have x1 := blk_cell HX.out (i := 1) rfl
            have x2 := blk_cell HX.out (i := 2) rfl
            have x3 := blk_cell HX.out (i := 3) rfl
            have f0 := blk_fz HX.out 0
            have f1 := blk_fz HX.out 1
            have f2 := blk_fz HX.out 2
            have f3 := blk_fz HX.out 3
            have lX := blk_lt HX.out
            refine ends_cons ?_
            go_wp2_with fail
            refine tailZ_end ?_
            refine ends_nil ?_
            have hX9 := blk_set (blk_set (blk_set (blk_set HX.out 0 (.int .i64 sS)) 1 (.slice aS nS cS)) 2 (.int .i64 tS)) 3 (.slice bS mS dS)
            have hRX := RB.put2 (X := X) HS.out (fun b hb => by (try simp only [World.size_drew] at *); omega)
            have hNX : Below w8.heap.size w8 ((((r2.setCell ⟨X, 0, none⟩ (.int .i64 sS)).setCell ⟨X, 1, none⟩ (.slice aS nS cS)).setCell ⟨X, 2, none⟩ (.int .i64 tS)).setCell ⟨X, 3, none⟩ (.slice bS mS dS)) := Below.setCell (Below.setCell (Below.setCell (Below.setCell (HQ.out.trans (HN.out.mono HQ.out.size)) lX8 _) lX8 _) lX8 _) lX8 _
            clear x0 x1 x2 x3 f0 f1 f2 f3 lX HX HS
            generalize hW : (((r2.setCell ⟨X, 0, none⟩ (.int .i64 sS)).setCell ⟨X, 1, none⟩ (.slice aS nS cS)).setCell ⟨X, 2, none⟩ (.int .i64 tS)).setCell ⟨X, 3, none⟩ (.slice bS mS dS) = wf at *
            have HX := Lib.hid (show wf.heap[X]? = some (.cells #[.int .i64 sS, .slice aS nS cS, .int .i64 tS, .slice bS mS dS] 101) from hX9)
            have HR := Lib.hid hRX
            have HQ := Lib.hid hNX
            clear hW hX9 hRX hNX
            go_wp2_with fail
            go_meet
            case rel => exact ⟨sS, tS, aS, bS, nS, cS, mS, dS, rfl, HX, Lib.hid (by rw [HAB.out]; exact HR.out), HQ⟩
          · have HAB := Lib.hid (absR_pos (q := D) (by rw [← HZ.out]; exact hZ0))
            have hZ1 : 0 ≤ Z := by omega
            clear hZ0
            go_wp2_with fail
            go_meet
            case rel => exact ⟨s9, t9, a9, b9, n9, c9, m9, d9, rfl, HX, Lib.hid (by rw [HAB.out]; exact HR.out), HQ⟩
        case rest =>
          obtain ⟨wb, rfl⟩ : ∃ w', w' = wc := ⟨wc, rfl⟩
          clear HR HX x0 x1 x2 x3 f0 f1 f2 f3 lX HQ q0 q1 q2 q3 q4 lw1
          obtain ⟨s9, t9, a9, b9, n9, c9, m9, d9, rfl, HX, HR, HQ⟩ := hcut
          have hzb := HQ.out.size
          have q0 : wb.cell? ⟨b, o + k * 5, none⟩ = some (.string s) := by rw [cellB HQ.out _ _ lb8]; exact q08
          have q1 : wb.cell? ⟨b, o + k * 5 + 1, none⟩ = some (.int .i64 fn) := by rw [cellB HQ.out _ _ lb8]; exact q18
          have q2 : wb.cell? ⟨b, o + k * 5 + 2, none⟩ = some (.int .i64 tn) := by rw [cellB HQ.out _ _ lb8]; exact q28
          have q3 : wb.cell? ⟨b, o + k * 5 + 3, none⟩ = some (.int .i64 Ln) := by rw [cellB HQ.out _ _ lb8]; exact q38
          have q4 : wb.cell? ⟨b, o + k * 5 + 4, none⟩ = some (.int .i64 lim) := by rw [cellB HQ.out _ _ lb8]; exact q48
          have lw1 : b < wb.heap.size := Nat.lt_of_lt_of_le lb8 HQ.out.size
          have x0 := blk_cell HX.out (i := 0) rfl
          have x1 := blk_cell HX.out (i := 1) rfl
          have x2 := blk_cell HX.out (i := 2) rfl
          have x3 := blk_cell HX.out (i := 3) rfl
          have f0 := blk_fz HX.out 0
          have f1 := blk_fz HX.out 1
          have f2 := blk_fz HX.out 2
          have f3 := blk_fz HX.out 3
          have lX := blk_lt HX.out
          obtain ⟨P, hP⟩ : ∃ P, P = (if smallQ q = true then q.num else 0) := ⟨_, rfl⟩
          obtain ⟨Q, hQ⟩ : ∃ Q, Q = (if smallQ q = true then (q.den : Int) else 0) := ⟨_, rfl⟩
          obtain ⟨ok, hok⟩ : ∃ x, x = smallQ q := ⟨_, rfl⟩
          have hfr := fun vv w' (h : RB w' vv ((v : Rat) * absR D / ((Ln : Int) : Rat))) => rb_frac vv _ w' h
          rw [← HQQ.out, ← hP, ← hQ, ← hok] at hfr
          have HFR := Lib.hid hfr
          rw [← hok] at hP hQ
          have HPQ := Lib.hid (And.intro hP hQ)
          have HOKQ := Lib.hid hok
          clear hP hQ hok hfr
          go_wp2_with fail
          go_cut [11, 12] from 48 to 62 (fun v11 v12 wx => ∃ Y : Nat, v11 = .pointer (some ⟨Y, 0, none⟩) ∧ v12 = .bool ok ∧ wx.cell? ⟨Y, 0, none⟩ = some (.int .i64 P) ∧ wx.cell? ⟨Y, 1, none⟩ = some (.int .i64 Q) ∧ Y < wx.heap.size ∧ Hid (Below wb.heap.size wb wx))
          case first =>
            have HN := Lib.hid (Below.refl wb.heap.size wb).drew
            refine wp_region_laterT (B := wb.heap.size) (.head 0 (.head 2 (.head 4 (.head 5 (.head 6 (.head 7 (.head 8 (.two 1 (.two 3 (.two 9 (.two 10 (.two 11 (.head 12 (.head 13 (.head 14 (.one 15 (.one 16 (.head 17 .done)))))) 15 (.one 11 (.head 12 (.head 13 (.head 14 (.one 16 (.head 17 .done))))))) 15 (.one 10 (.one 11 (.head 12 (.head 13 (.head 14 (.one 16 (.head 17 .done)))))))) 15 (.one 9 (.one 10 (.one 11 (.head 12 (.head 13 (.head 14 (.one 16 (.head 17 .done))))))))) 15 (.one 3 (.one 9 (.one 10 (.one 11 (.head 12 (.head 13 (.head 14 (.one 16 (.head 17 .done)))))))))) 15 (.one 1 (.one 3 (.one 9 (.one 10 (.one 11 (.head 12 (.head 13 (.head 14 (.one 16 (.head 17 .done)))))))))))))))))) (by kernel_rfl) (by kernel_rfl) ?_
            repeat (refine tree_head rfl ?_; (show wpQuiet _ _ _ _ (_ :: _) _; go_big_quiet_step (fail)); refine wpQuiet_nil ?_)
            have HR := Lib.hid (HR.out.below (Below.refl _ _).drew)
            refine tree_two rfl rfl ?_ ?_
            · go_wp2_with fail
              refine (rb_int v _ (by omega) (by omega)).mono ?_
              rintro ex wx1 ⟨sA, aA, nA, cA, tA, bA, mA, dA, rfl, hbx, hA, _⟩
              have HA := Lib.hid hA
              clear hA
              have hzx := hbx.size
              have HN := Lib.hid (HN.out.trans (hbx.mono HN.out.size))
              have HR := Lib.hid (HR.out.below hbx)
              clear hbx
              go_wp2_with fail
              refine tailL_mk HN.out ?_
              repeat (refine tree_head rfl ?_; (show wpQuiet _ _ _ _ (_ :: _) _; go_big_quiet_step (fail)); refine wpQuiet_nil ?_)
              refine tree_two rfl rfl ?_ ?_
              · go_wp2_with fail
                refine (rb_mul _ _ _ _ 1 7 _ HA.out HR.out HSV.out.1 HSA.out (by omega)).mono ?_
                rintro ex wx2 ⟨sB, aB, nB, cB, tB, bB, mB, dB, rfl, hbx, hB, _⟩
                have HB := Lib.hid hB
                clear hB
                have hzx := hbx.size
                have HN := Lib.hid (HN.out.trans (hbx.mono HN.out.size))
                have HR := Lib.hid (HR.out.below hbx)
                have HA := Lib.hid (HA.out.below hbx)
                clear hbx
                go_wp2_with fail
                refine tailL_mk HN.out ?_
                repeat (refine tree_head rfl ?_; (show wpQuiet _ _ _ _ (_ :: _) _; go_big_quiet_step (fail)); refine wpQuiet_nil ?_)
                refine tree_two rfl rfl ?_ ?_
                · go_wp2_with fail
                  refine (rb_int (Ln : Int) _ (by omega) (by omega)).mono ?_
                  rintro ex wx3 ⟨sC, aC, nC, cC, tC, bC, mC, dC, rfl, hbx, hC, _⟩
                  have HC := Lib.hid hC
                  clear hC
                  have hzx := hbx.size
                  have HN := Lib.hid (HN.out.trans (hbx.mono HN.out.size))
                  have HR := Lib.hid (HR.out.below hbx)
                  have HA := Lib.hid (HA.out.below hbx)
                  have HB := Lib.hid (HB.out.below hbx)
                  clear hbx
                  go_wp2_with fail
                  refine tailL_mk HN.out ?_
                  repeat (refine tree_head rfl ?_; (show wpQuiet _ _ _ _ (_ :: _) _; go_big_quiet_step (fail)); refine wpQuiet_nil ?_)
                  refine tree_two rfl rfl ?_ ?_
                  · go_wp2_with fail
                    refine (rb_div _ _ _ _ 8 1 _ HB.out HC.out HSV.out.2.2 (sz_mul (K := 1) (M := 7) HSV.out.1 HSA.out) HSV.out.2.1 (by omega)).mono ?_
                    rintro ex wx4 ⟨sD, aD, nD, cD, tD, bD, mD, dD, rfl, hbx, hD, _⟩
                    have HD := Lib.hid hD
                    clear hD
                    have hzx := hbx.size
                    have HN := Lib.hid (HN.out.trans (hbx.mono HN.out.size))
                    have HR := Lib.hid (HR.out.below hbx)
                    have HA := Lib.hid (HA.out.below hbx)
                    have HB := Lib.hid (HB.out.below hbx)
                    have HC := Lib.hid (HC.out.below hbx)
                    clear hbx
                    go_wp2_with fail
                    refine tailL_mk HN.out ?_
                    repeat (refine tree_head rfl ?_; (show wpQuiet _ _ _ _ (_ :: _) _; go_big_quiet_step (fail)); refine wpQuiet_nil ?_)
                    refine tree_two rfl rfl ?_ ?_
                    · go_wp2_with fail
                      refine (HFR.out _ _ (by rw [HQQ.out]; exact HD.out)).mono ?_
                      rintro ex wx5 ⟨rfl, hbx⟩
                      have hzx := hbx.size
                      have HN := Lib.hid (HN.out.trans (hbx.mono HN.out.size))
                      have HR := Lib.hid (HR.out.below hbx)
                      have HA := Lib.hid (HA.out.below hbx)
                      have HB := Lib.hid (HB.out.below hbx)
                      have HC := Lib.hid (HC.out.below hbx)
                      have HD := Lib.hid (HD.out.below hbx)
                      clear hbx
                      go_wp2_with fail
                      refine tailL_mk HN.out ?_
                      repeat (refine tree_head rfl ?_; (show wpQuiet _ _ _ _ (_ :: _) _; go_big_quiet_step (fail)); refine wpQuiet_nil ?_)
                      refine tree_one rfl ?_
                      go_wp2_with fail
                      obtain ⟨X9, hX9⟩ : ∃ X, X = wx5.heap.size := ⟨_, rfl⟩
                      have hNX : wb.heap.size ≤ X9 := by rw [hX9]; exact HN.out.size
                      have hx9 : (wx5.alloc (Obj.cells #[.int .i64 0, .int .i64 0] 28)).heap[X9]? = some (.cells #[.int .i64 0, .int .i64 0] 28) := by rw [hX9]; exact heap_alloc_new _ _
                      have l9 : X9 < (wx5.alloc (Obj.cells #[.int .i64 0, .int .i64 0] 28)).heap.size := by rw [hX9]; simp
                      have hs9 : (wx5.alloc (Obj.cells #[.int .i64 0, .int .i64 0] 28)).heap.size = wx5.heap.size + 1 := by simp
                      have hbx : Below wx5.heap.size wx5 (wx5.alloc (Obj.cells #[.int .i64 0, .int .i64 0] 28)) := by (repeat' (first | (with_reducible exact Below.refl _ _) | (with_reducible assumption) | (with_reducible refine Below.drewN ?_ _) | (with_reducible refine Below.alloc ?_ ?_ _) | (with_reducible refine Below.drew ?_) | (with_reducible refine Below.setCell ?_ ?_ _) | (with_reducible refine Below.step (by assumption) ?_ ?_) | (with_reducible exact And.left (by assumption)) | go_size))
                      try simp only [← hX9]
                      generalize (wx5.alloc (Obj.cells #[.int .i64 0, .int .i64 0] 28)) = wx6 at *
                      have HX9 := Lib.hid (And.intro hX9 hs9)
                      have HN := Lib.hid (HN.out.trans (hbx.mono HN.out.size))
                      have HR := Lib.hid (HR.out.below hbx)
                      have HA := Lib.hid (HA.out.below hbx)
                      have HB := Lib.hid (HB.out.below hbx)
                      have HC := Lib.hid (HC.out.below hbx)
                      have HD := Lib.hid (HD.out.below hbx)
                      clear hbx hX9 hs9
                      refine tailL_mk HN.out ?_
                      repeat (refine tree_head rfl ?_; (show wpQuiet _ _ _ _ (_ :: _) _; go_big_quiet_step (fail)); refine wpQuiet_nil ?_)
                      refine tree_one rfl ?_
                      have c90 := cell_of_row _ _ 0 _ _ _ hx9
                      have f90 := frozen_of_row _ _ 0 _ _ hx9
                      have c91 := cell_of_row _ _ 1 _ _ _ hx9
                      have f91 := frozen_of_row _ _ 1 _ _ hx9
                      simp only [List.getElem?_toArray, List.getElem?_cons_zero, List.getElem?_cons_succ] at c90 c91
                      go_wp2_with fail
                      have HN := Lib.hid (show Below wb.heap.size wb ((wx6.setCell ⟨X9, 0, none⟩ (.int .i64 P)).setCell ⟨X9, 1, none⟩ (.int .i64 Q)) from Below.setCell (Below.setCell (HN.out) hNX _) hNX _)
                      have hxo := hx9
                      have hx9 : ((wx6.setCell ⟨X9, 0, none⟩ (.int .i64 P)).setCell ⟨X9, 1, none⟩ (.int .i64 Q)).heap[X9]? = some (.cells #[.int .i64 P, .int .i64 Q] 28) := blk_set (blk_set (hx9) 0 (.int .i64 P)) 1 (.int .i64 Q)
                      refine tailL_mk HN.out ?_
                      repeat (refine tree_head rfl ?_; (show wpQuiet _ _ _ _ (_ :: _) _; go_big_quiet_step (fail)); refine wpQuiet_nil ?_)
                      refine tree_done ?_
                      go_wp2_with fail
                      go_meet
                      case rel => exact ⟨X9, rfl, rfl, by go_simp, by go_simp, by simpa using l9, HN⟩
                    · go_wp2_with fail
                      obtain ⟨X9, hX9⟩ : ∃ X, X = wx4.heap.size := ⟨_, rfl⟩
                      have hNX : wb.heap.size ≤ X9 := by rw [hX9]; exact HN.out.size
                      have hx9 : (wx4.alloc (Obj.cells #[.int .i64 0, .int .i64 0] 28)).heap[X9]? = some (.cells #[.int .i64 0, .int .i64 0] 28) := by rw [hX9]; exact heap_alloc_new _ _
                      have l9 : X9 < (wx4.alloc (Obj.cells #[.int .i64 0, .int .i64 0] 28)).heap.size := by rw [hX9]; simp
                      have hs9 : (wx4.alloc (Obj.cells #[.int .i64 0, .int .i64 0] 28)).heap.size = wx4.heap.size + 1 := by simp
                      have hbx : Below wx4.heap.size wx4 (wx4.alloc (Obj.cells #[.int .i64 0, .int .i64 0] 28)) := by (repeat' (first | (with_reducible exact Below.refl _ _) | (with_reducible assumption) | (with_reducible refine Below.drewN ?_ _) | (with_reducible refine Below.alloc ?_ ?_ _) | (with_reducible refine Below.drew ?_) | (with_reducible refine Below.setCell ?_ ?_ _) | (with_reducible refine Below.step (by assumption) ?_ ?_) | (with_reducible exact And.left (by assumption)) | go_size))
                      try simp only [← hX9]
                      generalize (wx4.alloc (Obj.cells #[.int .i64 0, .int .i64 0] 28)) = wx8 at *
                      have HX9 := Lib.hid (And.intro hX9 hs9)
                      have HN := Lib.hid (HN.out.trans (hbx.mono HN.out.size))
                      have HR := Lib.hid (HR.out.below hbx)
                      have HA := Lib.hid (HA.out.below hbx)
                      have HB := Lib.hid (HB.out.below hbx)
                      have HC := Lib.hid (HC.out.below hbx)
                      have HD := Lib.hid (HD.out.below hbx)
                      clear hbx hX9 hs9
                      refine tailL_mk HN.out ?_
                      repeat (refine tree_head rfl ?_; (show wpQuiet _ _ _ _ (_ :: _) _; go_big_quiet_step (fail)); refine wpQuiet_nil ?_)
                      refine tree_one rfl ?_
                      go_wp2_with fail
                      refine (HFR.out _ _ (by rw [HQQ.out]; exact HD.out)).mono ?_
                      rintro ex wx9 ⟨rfl, hbx⟩
                      have hzx := hbx.size
                      have HN := Lib.hid (HN.out.trans (hbx.mono HN.out.size))
                      have HR := Lib.hid (HR.out.below hbx)
                      have HA := Lib.hid (HA.out.below hbx)
                      have HB := Lib.hid (HB.out.below hbx)
                      have HC := Lib.hid (HC.out.below hbx)
                      have HD := Lib.hid (HD.out.below hbx)
                      have hx9 := (hbx.block X9 l9).trans hx9
                      have l9 := Nat.lt_of_lt_of_le l9 hbx.size
                      clear hbx
                      go_wp2_with fail
                      refine tailL_mk HN.out ?_
                      repeat (refine tree_head rfl ?_; (show wpQuiet _ _ _ _ (_ :: _) _; go_big_quiet_step (fail)); refine wpQuiet_nil ?_)
                      refine tree_one rfl ?_
                      have c90 := cell_of_row _ _ 0 _ _ _ hx9
                      have f90 := frozen_of_row _ _ 0 _ _ hx9
                      have c91 := cell_of_row _ _ 1 _ _ _ hx9
                      have f91 := frozen_of_row _ _ 1 _ _ hx9
                      simp only [List.getElem?_toArray, List.getElem?_cons_zero, List.getElem?_cons_succ] at c90 c91
                      go_wp2_with fail
                      have HN := Lib.hid (show Below wb.heap.size wb ((wx9.setCell ⟨X9, 0, none⟩ (.int .i64 P)).setCell ⟨X9, 1, none⟩ (.int .i64 Q)) from Below.setCell (Below.setCell (HN.out) hNX _) hNX _)
                      have hxo := hx9
                      have hx9 : ((wx9.setCell ⟨X9, 0, none⟩ (.int .i64 P)).setCell ⟨X9, 1, none⟩ (.int .i64 Q)).heap[X9]? = some (.cells #[.int .i64 P, .int .i64 Q] 28) := blk_set (blk_set (hx9) 0 (.int .i64 P)) 1 (.int .i64 Q)
                      refine tailL_mk HN.out ?_
                      repeat (refine tree_head rfl ?_; (show wpQuiet _ _ _ _ (_ :: _) _; go_big_quiet_step (fail)); refine wpQuiet_nil ?_)
                      refine tree_done ?_
                      go_wp2_with fail
                      go_meet
                      case rel => exact ⟨X9, rfl, rfl, by go_simp, by go_simp, by simpa using l9, HN⟩
                  · go_wp2_with fail
                    obtain ⟨X9, hX9⟩ : ∃ X, X = wx3.heap.size := ⟨_, rfl⟩
                    have hNX : wb.heap.size ≤ X9 := by rw [hX9]; exact HN.out.size
                    have hx9 : (wx3.alloc (Obj.cells #[.int .i64 0, .int .i64 0] 28)).heap[X9]? = some (.cells #[.int .i64 0, .int .i64 0] 28) := by rw [hX9]; exact heap_alloc_new _ _
                    have l9 : X9 < (wx3.alloc (Obj.cells #[.int .i64 0, .int .i64 0] 28)).heap.size := by rw [hX9]; simp
                    have hs9 : (wx3.alloc (Obj.cells #[.int .i64 0, .int .i64 0] 28)).heap.size = wx3.heap.size + 1 := by simp
                    have hbx : Below wx3.heap.size wx3 (wx3.alloc (Obj.cells #[.int .i64 0, .int .i64 0] 28)) := by (repeat' (first | (with_reducible exact Below.refl _ _) | (with_reducible assumption) | (with_reducible refine Below.drewN ?_ _) | (with_reducible refine Below.alloc ?_ ?_ _) | (with_reducible refine Below.drew ?_) | (with_reducible refine Below.setCell ?_ ?_ _) | (with_reducible refine Below.step (by assumption) ?_ ?_) | (with_reducible exact And.left (by assumption)) | go_size))
                    try simp only [← hX9]
                    generalize (wx3.alloc (Obj.cells #[.int .i64 0, .int .i64 0] 28)) = wx11 at *
                    have HX9 := Lib.hid (And.intro hX9 hs9)
                    have HN := Lib.hid (HN.out.trans (hbx.mono HN.out.size))
                    have HR := Lib.hid (HR.out.below hbx)
                    have HA := Lib.hid (HA.out.below hbx)
                    have HB := Lib.hid (HB.out.below hbx)
                    have HC := Lib.hid (HC.out.below hbx)
                    clear hbx hX9 hs9
                    refine tailL_mk HN.out ?_
                    repeat (refine tree_head rfl ?_; (show wpQuiet _ _ _ _ (_ :: _) _; go_big_quiet_step (fail)); refine wpQuiet_nil ?_)
                    refine tree_one rfl ?_
                    go_wp2_with fail
                    refine (rb_div _ _ _ _ 8 1 _ HB.out HC.out HSV.out.2.2 (sz_mul (K := 1) (M := 7) HSV.out.1 HSA.out) HSV.out.2.1 (by omega)).mono ?_
                    rintro ex wx12 ⟨sD, aD, nD, cD, tD, bD, mD, dD, rfl, hbx, hD, _⟩
                    have HD := Lib.hid hD
                    clear hD
                    have hzx := hbx.size
                    have HN := Lib.hid (HN.out.trans (hbx.mono HN.out.size))
                    have HR := Lib.hid (HR.out.below hbx)
                    have HA := Lib.hid (HA.out.below hbx)
                    have HB := Lib.hid (HB.out.below hbx)
                    have HC := Lib.hid (HC.out.below hbx)
                    have hx9 := (hbx.block X9 l9).trans hx9
                    have l9 := Nat.lt_of_lt_of_le l9 hbx.size
                    clear hbx
                    go_wp2_with fail
                    refine tailL_mk HN.out ?_
                    repeat (refine tree_head rfl ?_; (show wpQuiet _ _ _ _ (_ :: _) _; go_big_quiet_step (fail)); refine wpQuiet_nil ?_)
                    refine tree_one rfl ?_
                    go_wp2_with fail
                    refine (HFR.out _ _ (by rw [HQQ.out]; exact HD.out)).mono ?_
                    rintro ex wx13 ⟨rfl, hbx⟩
                    have hzx := hbx.size
                    have HN := Lib.hid (HN.out.trans (hbx.mono HN.out.size))
                    have HR := Lib.hid (HR.out.below hbx)
                    have HA := Lib.hid (HA.out.below hbx)
                    have HB := Lib.hid (HB.out.below hbx)
                    have HC := Lib.hid (HC.out.below hbx)
                    have HD := Lib.hid (HD.out.below hbx)
                    have hx9 := (hbx.block X9 l9).trans hx9
                    have l9 := Nat.lt_of_lt_of_le l9 hbx.size
                    clear hbx
                    go_wp2_with fail
                    refine tailL_mk HN.out ?_
                    repeat (refine tree_head rfl ?_; (show wpQuiet _ _ _ _ (_ :: _) _; go_big_quiet_step (fail)); refine wpQuiet_nil ?_)
                    refine tree_one rfl ?_
                    have c90 := cell_of_row _ _ 0 _ _ _ hx9
                    have f90 := frozen_of_row _ _ 0 _ _ hx9
                    have c91 := cell_of_row _ _ 1 _ _ _ hx9
                    have f91 := frozen_of_row _ _ 1 _ _ hx9
                    simp only [List.getElem?_toArray, List.getElem?_cons_zero, List.getElem?_cons_succ] at c90 c91
                    go_wp2_with fail
                    have HN := Lib.hid (show Below wb.heap.size wb ((wx13.setCell ⟨X9, 0, none⟩ (.int .i64 P)).setCell ⟨X9, 1, none⟩ (.int .i64 Q)) from Below.setCell (Below.setCell (HN.out) hNX _) hNX _)
                    have hxo := hx9
                    have hx9 : ((wx13.setCell ⟨X9, 0, none⟩ (.int .i64 P)).setCell ⟨X9, 1, none⟩ (.int .i64 Q)).heap[X9]? = some (.cells #[.int .i64 P, .int .i64 Q] 28) := blk_set (blk_set (hx9) 0 (.int .i64 P)) 1 (.int .i64 Q)
                    refine tailL_mk HN.out ?_
                    repeat (refine tree_head rfl ?_; (show wpQuiet _ _ _ _ (_ :: _) _; go_big_quiet_step (fail)); refine wpQuiet_nil ?_)
                    refine tree_done ?_
                    go_wp2_with fail
                    go_meet
                    case rel => exact ⟨X9, rfl, rfl, by go_simp, by go_simp, by simpa using l9, HN⟩
                · go_wp2_with fail
                  obtain ⟨X9, hX9⟩ : ∃ X, X = wx2.heap.size := ⟨_, rfl⟩
                  have hNX : wb.heap.size ≤ X9 := by rw [hX9]; exact HN.out.size
                  have hx9 : (wx2.alloc (Obj.cells #[.int .i64 0, .int .i64 0] 28)).heap[X9]? = some (.cells #[.int .i64 0, .int .i64 0] 28) := by rw [hX9]; exact heap_alloc_new _ _
                  have l9 : X9 < (wx2.alloc (Obj.cells #[.int .i64 0, .int .i64 0] 28)).heap.size := by rw [hX9]; simp
                  have hs9 : (wx2.alloc (Obj.cells #[.int .i64 0, .int .i64 0] 28)).heap.size = wx2.heap.size + 1 := by simp
                  have hbx : Below wx2.heap.size wx2 (wx2.alloc (Obj.cells #[.int .i64 0, .int .i64 0] 28)) := by (repeat' (first | (with_reducible exact Below.refl _ _) | (with_reducible assumption) | (with_reducible refine Below.drewN ?_ _) | (with_reducible refine Below.alloc ?_ ?_ _) | (with_reducible refine Below.drew ?_) | (with_reducible refine Below.setCell ?_ ?_ _) | (with_reducible refine Below.step (by assumption) ?_ ?_) | (with_reducible exact And.left (by assumption)) | go_size))
                  try simp only [← hX9]
                  generalize (wx2.alloc (Obj.cells #[.int .i64 0, .int .i64 0] 28)) = wx15 at *
                  have HX9 := Lib.hid (And.intro hX9 hs9)
                  have HN := Lib.hid (HN.out.trans (hbx.mono HN.out.size))
                  have HR := Lib.hid (HR.out.below hbx)
                  have HA := Lib.hid (HA.out.below hbx)
                  have HB := Lib.hid (HB.out.below hbx)
                  clear hbx hX9 hs9
                  refine tailL_mk HN.out ?_
                  repeat (refine tree_head rfl ?_; (show wpQuiet _ _ _ _ (_ :: _) _; go_big_quiet_step (fail)); refine wpQuiet_nil ?_)
                  refine tree_one rfl ?_
                  go_wp2_with fail
                  refine (rb_int (Ln : Int) _ (by omega) (by omega)).mono ?_
                  rintro ex wx16 ⟨sC, aC, nC, cC, tC, bC, mC, dC, rfl, hbx, hC, _⟩
                  have HC := Lib.hid hC
                  clear hC
                  have hzx := hbx.size
                  have HN := Lib.hid (HN.out.trans (hbx.mono HN.out.size))
                  have HR := Lib.hid (HR.out.below hbx)
                  have HA := Lib.hid (HA.out.below hbx)
                  have HB := Lib.hid (HB.out.below hbx)
                  have hx9 := (hbx.block X9 l9).trans hx9
                  have l9 := Nat.lt_of_lt_of_le l9 hbx.size
                  clear hbx
                  go_wp2_with fail
                  refine tailL_mk HN.out ?_
                  repeat (refine tree_head rfl ?_; (show wpQuiet _ _ _ _ (_ :: _) _; go_big_quiet_step (fail)); refine wpQuiet_nil ?_)
                  refine tree_one rfl ?_
                  go_wp2_with fail
                  refine (rb_div _ _ _ _ 8 1 _ HB.out HC.out HSV.out.2.2 (sz_mul (K := 1) (M := 7) HSV.out.1 HSA.out) HSV.out.2.1 (by omega)).mono ?_
                  rintro ex wx17 ⟨sD, aD, nD, cD, tD, bD, mD, dD, rfl, hbx, hD, _⟩
                  have HD := Lib.hid hD
                  clear hD
                  have hzx := hbx.size
                  have HN := Lib.hid (HN.out.trans (hbx.mono HN.out.size))
                  have HR := Lib.hid (HR.out.below hbx)
                  have HA := Lib.hid (HA.out.below hbx)
                  have HB := Lib.hid (HB.out.below hbx)
                  have HC := Lib.hid (HC.out.below hbx)
                  have hx9 := (hbx.block X9 l9).trans hx9
                  have l9 := Nat.lt_of_lt_of_le l9 hbx.size
                  clear hbx
                  go_wp2_with fail
                  refine tailL_mk HN.out ?_
                  repeat (refine tree_head rfl ?_; (show wpQuiet _ _ _ _ (_ :: _) _; go_big_quiet_step (fail)); refine wpQuiet_nil ?_)
                  refine tree_one rfl ?_
                  go_wp2_with fail
                  refine (HFR.out _ _ (by rw [HQQ.out]; exact HD.out)).mono ?_
                  rintro ex wx18 ⟨rfl, hbx⟩
                  have hzx := hbx.size
                  have HN := Lib.hid (HN.out.trans (hbx.mono HN.out.size))
                  have HR := Lib.hid (HR.out.below hbx)
                  have HA := Lib.hid (HA.out.below hbx)
                  have HB := Lib.hid (HB.out.below hbx)
                  have HC := Lib.hid (HC.out.below hbx)
                  have HD := Lib.hid (HD.out.below hbx)
                  have hx9 := (hbx.block X9 l9).trans hx9
                  have l9 := Nat.lt_of_lt_of_le l9 hbx.size
                  clear hbx
                  go_wp2_with fail
                  refine tailL_mk HN.out ?_
                  repeat (refine tree_head rfl ?_; (show wpQuiet _ _ _ _ (_ :: _) _; go_big_quiet_step (fail)); refine wpQuiet_nil ?_)
                  refine tree_one rfl ?_
                  have c90 := cell_of_row _ _ 0 _ _ _ hx9
                  have f90 := frozen_of_row _ _ 0 _ _ hx9
                  have c91 := cell_of_row _ _ 1 _ _ _ hx9
                  have f91 := frozen_of_row _ _ 1 _ _ hx9
                  simp only [List.getElem?_toArray, List.getElem?_cons_zero, List.getElem?_cons_succ] at c90 c91
                  go_wp2_with fail
                  have HN := Lib.hid (show Below wb.heap.size wb ((wx18.setCell ⟨X9, 0, none⟩ (.int .i64 P)).setCell ⟨X9, 1, none⟩ (.int .i64 Q)) from Below.setCell (Below.setCell (HN.out) hNX _) hNX _)
                  have hxo := hx9
                  have hx9 : ((wx18.setCell ⟨X9, 0, none⟩ (.int .i64 P)).setCell ⟨X9, 1, none⟩ (.int .i64 Q)).heap[X9]? = some (.cells #[.int .i64 P, .int .i64 Q] 28) := blk_set (blk_set (hx9) 0 (.int .i64 P)) 1 (.int .i64 Q)
                  refine tailL_mk HN.out ?_
                  repeat (refine tree_head rfl ?_; (show wpQuiet _ _ _ _ (_ :: _) _; go_big_quiet_step (fail)); refine wpQuiet_nil ?_)
                  refine tree_done ?_
                  go_wp2_with fail
                  go_meet
                  case rel => exact ⟨X9, rfl, rfl, by go_simp, by go_simp, by simpa using l9, HN⟩
              · go_wp2_with fail
                obtain ⟨X9, hX9⟩ : ∃ X, X = wx1.heap.size := ⟨_, rfl⟩
                have hNX : wb.heap.size ≤ X9 := by rw [hX9]; exact HN.out.size
                have hx9 : (wx1.alloc (Obj.cells #[.int .i64 0, .int .i64 0] 28)).heap[X9]? = some (.cells #[.int .i64 0, .int .i64 0] 28) := by rw [hX9]; exact heap_alloc_new _ _
                have l9 : X9 < (wx1.alloc (Obj.cells #[.int .i64 0, .int .i64 0] 28)).heap.size := by rw [hX9]; simp
                have hs9 : (wx1.alloc (Obj.cells #[.int .i64 0, .int .i64 0] 28)).heap.size = wx1.heap.size + 1 := by simp
                have hbx : Below wx1.heap.size wx1 (wx1.alloc (Obj.cells #[.int .i64 0, .int .i64 0] 28)) := by (repeat' (first | (with_reducible exact Below.refl _ _) | (with_reducible assumption) | (with_reducible refine Below.drewN ?_ _) | (with_reducible refine Below.alloc ?_ ?_ _) | (with_reducible refine Below.drew ?_) | (with_reducible refine Below.setCell ?_ ?_ _) | (with_reducible refine Below.step (by assumption) ?_ ?_) | (with_reducible exact And.left (by assumption)) | go_size))
                try simp only [← hX9]
                generalize (wx1.alloc (Obj.cells #[.int .i64 0, .int .i64 0] 28)) = wx20 at *
                have HX9 := Lib.hid (And.intro hX9 hs9)
                have HN := Lib.hid (HN.out.trans (hbx.mono HN.out.size))
                have HR := Lib.hid (HR.out.below hbx)
                have HA := Lib.hid (HA.out.below hbx)
                clear hbx hX9 hs9
                refine tailL_mk HN.out ?_
                repeat (refine tree_head rfl ?_; (show wpQuiet _ _ _ _ (_ :: _) _; go_big_quiet_step (fail)); refine wpQuiet_nil ?_)
                refine tree_one rfl ?_
                go_wp2_with fail
                refine (rb_mul _ _ _ _ 1 7 _ HA.out HR.out HSV.out.1 HSA.out (by omega)).mono ?_
                rintro ex wx21 ⟨sB, aB, nB, cB, tB, bB, mB, dB, rfl, hbx, hB, _⟩
                have HB := Lib.hid hB
                clear hB
                have hzx := hbx.size
                have HN := Lib.hid (HN.out.trans (hbx.mono HN.out.size))
                have HR := Lib.hid (HR.out.below hbx)
                have HA := Lib.hid (HA.out.below hbx)
                have hx9 := (hbx.block X9 l9).trans hx9
                have l9 := Nat.lt_of_lt_of_le l9 hbx.size
                clear hbx
                go_wp2_with fail
                refine tailL_mk HN.out ?_
                repeat (refine tree_head rfl ?_; (show wpQuiet _ _ _ _ (_ :: _) _; go_big_quiet_step (fail)); refine wpQuiet_nil ?_)
                refine tree_one rfl ?_
                go_wp2_with fail
                refine (rb_int (Ln : Int) _ (by omega) (by omega)).mono ?_
                rintro ex wx22 ⟨sC, aC, nC, cC, tC, bC, mC, dC, rfl, hbx, hC, _⟩
                have HC := Lib.hid hC
                clear hC
                have hzx := hbx.size
                have HN := Lib.hid (HN.out.trans (hbx.mono HN.out.size))
                have HR := Lib.hid (HR.out.below hbx)
                have HA := Lib.hid (HA.out.below hbx)
                have HB := Lib.hid (HB.out.below hbx)
                have hx9 := (hbx.block X9 l9).trans hx9
                have l9 := Nat.lt_of_lt_of_le l9 hbx.size
                clear hbx
                go_wp2_with fail
                refine tailL_mk HN.out ?_
                repeat (refine tree_head rfl ?_; (show wpQuiet _ _ _ _ (_ :: _) _; go_big_quiet_step (fail)); refine wpQuiet_nil ?_)
                refine tree_one rfl ?_
                go_wp2_with fail
                refine (rb_div _ _ _ _ 8 1 _ HB.out HC.out HSV.out.2.2 (sz_mul (K := 1) (M := 7) HSV.out.1 HSA.out) HSV.out.2.1 (by omega)).mono ?_
                rintro ex wx23 ⟨sD, aD, nD, cD, tD, bD, mD, dD, rfl, hbx, hD, _⟩
                have HD := Lib.hid hD
                clear hD
                have hzx := hbx.size
                have HN := Lib.hid (HN.out.trans (hbx.mono HN.out.size))
                have HR := Lib.hid (HR.out.below hbx)
                have HA := Lib.hid (HA.out.below hbx)
                have HB := Lib.hid (HB.out.below hbx)
                have HC := Lib.hid (HC.out.below hbx)
                have hx9 := (hbx.block X9 l9).trans hx9
                have l9 := Nat.lt_of_lt_of_le l9 hbx.size
                clear hbx
                go_wp2_with fail
                refine tailL_mk HN.out ?_
                repeat (refine tree_head rfl ?_; (show wpQuiet _ _ _ _ (_ :: _) _; go_big_quiet_step (fail)); refine wpQuiet_nil ?_)
                refine tree_one rfl ?_
                go_wp2_with fail
                refine (HFR.out _ _ (by rw [HQQ.out]; exact HD.out)).mono ?_
                rintro ex wx24 ⟨rfl, hbx⟩
                have hzx := hbx.size
                have HN := Lib.hid (HN.out.trans (hbx.mono HN.out.size))
                have HR := Lib.hid (HR.out.below hbx)
                have HA := Lib.hid (HA.out.below hbx)
                have HB := Lib.hid (HB.out.below hbx)
                have HC := Lib.hid (HC.out.below hbx)
                have HD := Lib.hid (HD.out.below hbx)
                have hx9 := (hbx.block X9 l9).trans hx9
                have l9 := Nat.lt_of_lt_of_le l9 hbx.size
                clear hbx
                go_wp2_with fail
                refine tailL_mk HN.out ?_
                repeat (refine tree_head rfl ?_; (show wpQuiet _ _ _ _ (_ :: _) _; go_big_quiet_step (fail)); refine wpQuiet_nil ?_)
                refine tree_one rfl ?_
                have c90 := cell_of_row _ _ 0 _ _ _ hx9
                have f90 := frozen_of_row _ _ 0 _ _ hx9
                have c91 := cell_of_row _ _ 1 _ _ _ hx9
                have f91 := frozen_of_row _ _ 1 _ _ hx9
                simp only [List.getElem?_toArray, List.getElem?_cons_zero, List.getElem?_cons_succ] at c90 c91
                go_wp2_with fail
                have HN := Lib.hid (show Below wb.heap.size wb ((wx24.setCell ⟨X9, 0, none⟩ (.int .i64 P)).setCell ⟨X9, 1, none⟩ (.int .i64 Q)) from Below.setCell (Below.setCell (HN.out) hNX _) hNX _)
                have hxo := hx9
                have hx9 : ((wx24.setCell ⟨X9, 0, none⟩ (.int .i64 P)).setCell ⟨X9, 1, none⟩ (.int .i64 Q)).heap[X9]? = some (.cells #[.int .i64 P, .int .i64 Q] 28) := blk_set (blk_set (hx9) 0 (.int .i64 P)) 1 (.int .i64 Q)
                refine tailL_mk HN.out ?_
                repeat (refine tree_head rfl ?_; (show wpQuiet _ _ _ _ (_ :: _) _; go_big_quiet_step (fail)); refine wpQuiet_nil ?_)
                refine tree_done ?_
                go_wp2_with fail
                go_meet
                case rel => exact ⟨X9, rfl, rfl, by go_simp, by go_simp, by simpa using l9, HN⟩
            · go_wp2_with fail
              obtain ⟨X9, hX9⟩ : ∃ X, X = wb.heap.size := ⟨_, rfl⟩
              have hNX : wb.heap.size ≤ X9 := by rw [hX9]; exact HN.out.size
              have hx9 : (wb.alloc (Obj.cells #[.int .i64 0, .int .i64 0] 28)).drew.heap[X9]? = some (.cells #[.int .i64 0, .int .i64 0] 28) := by rw [hX9]; exact heap_alloc_new _ _
              have l9 : X9 < (wb.alloc (Obj.cells #[.int .i64 0, .int .i64 0] 28)).drew.heap.size := by rw [hX9]; simp
              have hs9 : (wb.alloc (Obj.cells #[.int .i64 0, .int .i64 0] 28)).drew.heap.size = wb.heap.size + 1 := by simp
              have hbx : Below wb.heap.size wb (wb.alloc (Obj.cells #[.int .i64 0, .int .i64 0] 28)).drew := by (repeat' (first | (with_reducible exact Below.refl _ _) | (with_reducible assumption) | (with_reducible refine Below.drewN ?_ _) | (with_reducible refine Below.alloc ?_ ?_ _) | (with_reducible refine Below.drew ?_) | (with_reducible refine Below.setCell ?_ ?_ _) | (with_reducible refine Below.step (by assumption) ?_ ?_) | (with_reducible exact And.left (by assumption)) | go_size))
              have hbd : Below wb.drew.heap.size wb.drew (wb.alloc (Obj.cells #[.int .i64 0, .int .i64 0] 28)).drew := ⟨hbx.os, hbx.tape, hbx.output, hbx.size, hbx.block⟩
              try simp only [← hX9]
              generalize (wb.alloc (Obj.cells #[.int .i64 0, .int .i64 0] 28)).drew = wx26 at *
              have HX9 := Lib.hid (And.intro hX9 hs9)
              have HN := Lib.hid hbx
              have HR := Lib.hid (HR.out.below hbd)
              clear hbx hX9 hs9 hbd
              refine tailL_mk HN.out ?_
              repeat (refine tree_head rfl ?_; (show wpQuiet _ _ _ _ (_ :: _) _; go_big_quiet_step (fail)); refine wpQuiet_nil ?_)
              refine tree_one rfl ?_
              go_wp2_with fail
              refine (rb_int v _ (by omega) (by omega)).mono ?_
              rintro ex wx27 ⟨sA, aA, nA, cA, tA, bA, mA, dA, rfl, hbx, hA, _⟩
              have HA := Lib.hid hA
              clear hA
              have hzx := hbx.size
              have HN := Lib.hid (HN.out.trans (hbx.mono HN.out.size))
              have HR := Lib.hid (HR.out.below hbx)
              have hx9 := (hbx.block X9 l9).trans hx9
              have l9 := Nat.lt_of_lt_of_le l9 hbx.size
              clear hbx
              go_wp2_with fail
              refine tailL_mk HN.out ?_
              repeat (refine tree_head rfl ?_; (show wpQuiet _ _ _ _ (_ :: _) _; go_big_quiet_step (fail)); refine wpQuiet_nil ?_)
              refine tree_one rfl ?_
              go_wp2_with fail
              refine (rb_mul _ _ _ _ 1 7 _ HA.out HR.out HSV.out.1 HSA.out (by omega)).mono ?_
              rintro ex wx28 ⟨sB, aB, nB, cB, tB, bB, mB, dB, rfl, hbx, hB, _⟩
              have HB := Lib.hid hB
              clear hB
              have hzx := hbx.size
              have HN := Lib.hid (HN.out.trans (hbx.mono HN.out.size))
              have HR := Lib.hid (HR.out.below hbx)
              have HA := Lib.hid (HA.out.below hbx)
              have hx9 := (hbx.block X9 l9).trans hx9
              have l9 := Nat.lt_of_lt_of_le l9 hbx.size
              clear hbx
              go_wp2_with fail
              refine tailL_mk HN.out ?_
              repeat (refine tree_head rfl ?_; (show wpQuiet _ _ _ _ (_ :: _) _; go_big_quiet_step (fail)); refine wpQuiet_nil ?_)
              refine tree_one rfl ?_
              go_wp2_with fail
              refine (rb_int (Ln : Int) _ (by omega) (by omega)).mono ?_
              rintro ex wx29 ⟨sC, aC, nC, cC, tC, bC, mC, dC, rfl, hbx, hC, _⟩
              have HC := Lib.hid hC
              clear hC
              have hzx := hbx.size
              have HN := Lib.hid (HN.out.trans (hbx.mono HN.out.size))
              have HR := Lib.hid (HR.out.below hbx)
              have HA := Lib.hid (HA.out.below hbx)
              have HB := Lib.hid (HB.out.below hbx)
              have hx9 := (hbx.block X9 l9).trans hx9
              have l9 := Nat.lt_of_lt_of_le l9 hbx.size
              clear hbx
              go_wp2_with fail
              refine tailL_mk HN.out ?_
              repeat (refine tree_head rfl ?_; (show wpQuiet _ _ _ _ (_ :: _) _; go_big_quiet_step (fail)); refine wpQuiet_nil ?_)
              refine tree_one rfl ?_
              go_wp2_with fail
              refine (rb_div _ _ _ _ 8 1 _ HB.out HC.out HSV.out.2.2 (sz_mul (K := 1) (M := 7) HSV.out.1 HSA.out) HSV.out.2.1 (by omega)).mono ?_
              rintro ex wx30 ⟨sD, aD, nD, cD, tD, bD, mD, dD, rfl, hbx, hD, _⟩
              have HD := Lib.hid hD
              clear hD
              have hzx := hbx.size
              have HN := Lib.hid (HN.out.trans (hbx.mono HN.out.size))
              have HR := Lib.hid (HR.out.below hbx)
              have HA := Lib.hid (HA.out.below hbx)
              have HB := Lib.hid (HB.out.below hbx)
              have HC := Lib.hid (HC.out.below hbx)
              have hx9 := (hbx.block X9 l9).trans hx9
              have l9 := Nat.lt_of_lt_of_le l9 hbx.size
              clear hbx
              go_wp2_with fail
              refine tailL_mk HN.out ?_
              repeat (refine tree_head rfl ?_; (show wpQuiet _ _ _ _ (_ :: _) _; go_big_quiet_step (fail)); refine wpQuiet_nil ?_)
              refine tree_one rfl ?_
              go_wp2_with fail
              refine (HFR.out _ _ (by rw [HQQ.out]; exact HD.out)).mono ?_
              rintro ex wx31 ⟨rfl, hbx⟩
              have hzx := hbx.size
              have HN := Lib.hid (HN.out.trans (hbx.mono HN.out.size))
              have HR := Lib.hid (HR.out.below hbx)
              have HA := Lib.hid (HA.out.below hbx)
              have HB := Lib.hid (HB.out.below hbx)
              have HC := Lib.hid (HC.out.below hbx)
              have HD := Lib.hid (HD.out.below hbx)
              have hx9 := (hbx.block X9 l9).trans hx9
              have l9 := Nat.lt_of_lt_of_le l9 hbx.size
              clear hbx
              go_wp2_with fail
              refine tailL_mk HN.out ?_
              repeat (refine tree_head rfl ?_; (show wpQuiet _ _ _ _ (_ :: _) _; go_big_quiet_step (fail)); refine wpQuiet_nil ?_)
              refine tree_one rfl ?_
              have c90 := cell_of_row _ _ 0 _ _ _ hx9
              have f90 := frozen_of_row _ _ 0 _ _ hx9
              have c91 := cell_of_row _ _ 1 _ _ _ hx9
              have f91 := frozen_of_row _ _ 1 _ _ hx9
              simp only [List.getElem?_toArray, List.getElem?_cons_zero, List.getElem?_cons_succ] at c90 c91
              go_wp2_with fail
              have HN := Lib.hid (show Below wb.heap.size wb ((wx31.setCell ⟨X9, 0, none⟩ (.int .i64 P)).setCell ⟨X9, 1, none⟩ (.int .i64 Q)) from Below.setCell (Below.setCell (HN.out) hNX _) hNX _)
              have hxo := hx9
              have hx9 : ((wx31.setCell ⟨X9, 0, none⟩ (.int .i64 P)).setCell ⟨X9, 1, none⟩ (.int .i64 Q)).heap[X9]? = some (.cells #[.int .i64 P, .int .i64 Q] 28) := blk_set (blk_set (hx9) 0 (.int .i64 P)) 1 (.int .i64 Q)
              refine tailL_mk HN.out ?_
              repeat (refine tree_head rfl ?_; (show wpQuiet _ _ _ _ (_ :: _) _; go_big_quiet_step (fail)); refine wpQuiet_nil ?_)
              refine tree_done ?_
              go_wp2_with fail
              go_meet
              case rel => exact ⟨X9, rfl, rfl, by go_simp, by go_simp, by simpa using l9, HN⟩
          case rest =>
            obtain ⟨we, rfl⟩ : ∃ w', w' = wc := ⟨wc, rfl⟩
            obtain ⟨Y, rfl, rfl, y0, y1, lY, hN⟩ := hcut
            have HQe := Lib.hid (HQ.out.trans (hN.out.mono hzb))
            have hze := HQe.out.size
            clear hN x0 x1 x2 x3 f0 f1 f2 f3 lX q0 q1 q2 q3 q4 lw1 HX HR HFR
            have q0 : we.cell? ⟨b, o + k * 5, none⟩ = some (.string s) := by rw [cellB HQe.out _ _ lb8]; exact q08
            have q1 : we.cell? ⟨b, o + k * 5 + 1, none⟩ = some (.int .i64 fn) := by rw [cellB HQe.out _ _ lb8]; exact q18
            have q2 : we.cell? ⟨b, o + k * 5 + 2, none⟩ = some (.int .i64 tn) := by rw [cellB HQe.out _ _ lb8]; exact q28
            have q3 : we.cell? ⟨b, o + k * 5 + 3, none⟩ = some (.int .i64 Ln) := by rw [cellB HQe.out _ _ lb8]; exact q38
            have q4 : we.cell? ⟨b, o + k * 5 + 4, none⟩ = some (.int .i64 lim) := by rw [cellB HQe.out _ _ lb8]; exact q48
            have lw1 : b < we.heap.size := Nat.lt_of_lt_of_le lb8 HQe.out.size
            have HOe := Lib.hid (owns_below HO8.out HQe.out (fun q hq => (HO8.out.lt q hq).2))
            have HBe := Lib.hid (HB8.out.trans (HQe.out.mono hz8))
            clear HO8
            cases ok
            · have HBAD := Lib.hid (show ∃ p ∈ l, smallQ (stOf v u p) = false from ⟨_, List.mem_of_getElem? HX0.out, by rw [HQE.out]; exact HOKQ.out.symm⟩)
              go_wp2
              go_ret2
              exact ⟨HBe.out, .inl ⟨HBAD.out, rfl⟩⟩
            · obtain ⟨hP, hQ⟩ := HPQ.out
              rw [if_pos rfl] at hP hQ
              have hq := HOKQ.out.symm
              have HQS := Lib.hid hq
              unfold smallQ at hq
              simp only [Bool.and_eq_true, wi_iff] at hq
              rw [← hP, ← hQ] at hq
              have pp := Int.mul_le_mul_of_nonneg_left hq.2.2 i0
              have pq := Int.mul_nonneg i0 (show (0 : Int) ≤ Q by omega)
              obtain ⟨M, hM⟩ : ∃ M, M = lim * Q := ⟨_, rfl⟩
              have hrk := HRK.out
              rw [← hP, ← hQ, ← hM] at hrk
              rw [← hM] at pp pq
              have pr : M ≤ 1000000000000000 := by omega
              obtain ⟨C, hC⟩ : ∃ C, C = cmpJ (P * 1) (lim * Q) := ⟨_, rfl⟩
              have HCM := Lib.hid (fun w' => (show Calls Tryz.prog 67 #[.agg #[.int .i64 P, .int .i64 Q], .agg #[.int .i64 lim, .int .i64 1]] w' (fun e' w'' => e' = .returned (.int .i64 C) ∧ Below w'.heap.size w' w'') by rw [hC]; exact bcmpJ_any P Q lim 1 w' (by omega) (by omega)))
              have hCM : decide (C ≤ 0) = decide (P ≤ M) := by
                rw [hC, Int.mul_one, ← hM]
                unfold cmpJ
                congr 1
                apply propext
                split
                · omega
                · split <;> omega
              have HTK := Lib.hid (show ecells rEnc ((l.take (k + 1)).map (rkOf v u)) = ecells rEnc ((l.take k).map (rkOf v u)) ++ [.string s, .int .i64 P, .int .i64 Q, .bool (decide (C ≤ 0))] by
                rw [take_last HX0.out, List.map_append, ecells_append, List.map_cons, List.map_nil, ecells_one, hrk, hCM, hP, hQ]; rfl)
              have HSN := Lib.hid (show ∀ i p, i < k + 1 → l[i]? = some p → smallQ (stOf v u p) = true from fun i p hi hp => by
                rcases Nat.lt_or_ge i k with h2 | h2
                · exact HS8.out i p h2 hp
                · obtain rfl : i = k := by omega
                  rw [HX0.out] at hp; obtain rfl := Option.some.inj hp; rw [HQE.out]; exact HQS.out)
              clear hP hQ hC hCM hM hrk HQS HOKQ HPQ HRK HX0 hq pp pq
              go_wp2_with fail
              refine wp_region_laterY (B := we.heap.size) [0, 1, 2, 3, 4, 5, 6, 7, 8, 9, 10, 11, 12] [13, 14, 15, 16, 17] [18, 19] (by kernel_rfl) (by kernel_rfl) ?_; simp only [List.filterMap_cons, List.filterMap_nil, List.getElem?_cons_zero, List.getElem?_cons_succ]; repeat (show wpQuiet _ _ _ _ (_ :: _) _; go_big_quiet_step (fail))
              refine wpQuiet_nil ?_
              refine tailY_cons ?_
              go_wp2_with fail
              refine (whole_any lim _).mono ?_
              rintro e13 wf ⟨rfl, hbf⟩
              have HNf := Lib.hid ((Below.refl we.heap.size we).drew.trans hbf)
              clear hbf
              go_wp2_with fail
              refine tailL_mk HNf.out ?_
              refine tailY_cons ?_
              go_wp2_with fail
              refine (HCM.out _).mono ?_
              rintro e14 wg ⟨rfl, hbg⟩
              have HNg := Lib.hid (HNf.out.trans (hbg.mono HNf.out.size))
              clear hbg
              go_wp2_with fail
              refine tailL_mk HNg.out ?_
              refine tailY_cons ?_
              go_wp2_with fail
              refine tailL_mk HNg.out ?_
              refine tailY_cons ?_
              go_wp2_with fail
              refine tailL_mk HNg.out ?_
              refine tailY_cons ?_
              go_wp2_with fail
              refine tailL_mk (HNg.out.alloc HNg.out.size _) ?_
              have HOg := Lib.hid (owns_below HOe.out HNg.out (fun q hq => (HOe.out.lt q hq).2))
              have HBg := Lib.hid (HBe.out.trans (HNg.out.mono HBe.out.size))
              refine tailY_ends ?_
              refine ends_cons ?_
              go_wp2_with (at_builtin; refine wpList_append_sl _ rfl _ _ 49 rfl w.heap.size 122 _ 4 40 Tryz.underlying49 infoRank rfl (by omega) (.slice av k cv) k _ rfl (HOg.out.alloc _) _ 1 1 [.string s, .int .i64 P, .int .i64 Q, .bool (decide (C ≤ 0))] rfl (SlR.lit _ _ _ _ _ 1 4 (by rfl) (by simp) rfl (by omega)) (by simp [Value.oneCell']) (by omega) (by omega) (by have := HBg.out.size; simp; omega) ?_)
              intro v8 wz hown8 _ hb8z
              obtain ⟨a8, c8, rfl, _, _⟩ := owns_slice hown8
              have HO9 := Lib.hid (show wz.ownsRow w.heap.size 122 4 (.slice a8 (k + 1) c8) (k + 1) (ecells rEnc ((l.take (k + 1)).map (rkOf v u))) by rw [HTK.out, List.map_take]; exact hown8)
              have HB9 := Lib.hid (show Below w.heap.size w wz from Below.trans (HBg.out.alloc HBg.out.size _) hb8z)
              clear hown8 hb8z
              refine tailZ_end ?_
              refine ends_cons ?_
              go_wp2_with fail
              refine tailZ_end ?_
              refine ends_nil ?_
              go_wp2
              go_roundw
              case rel => exact ⟨k + 1, a8, c8, by go_num, rfl, by omega, HO9, HSN, HB9⟩
              case measure => simp [intOf]; omega
    · obtain rfl : n = k := by omega
      have HSA := Lib.hid (show ∀ p ∈ l, smallQ (stOf v u p) = true from fun p hp => by
        obtain ⟨i, hi⟩ := List.mem_iff_getElem?.1 hp
        exact HS8.out i p (by have := (List.getElem?_eq_some_iff.1 hi).1; rw [HLN.out] at this; exact this) hi)
      have HP := Lib.hid (HSX.out HSA.out).1
      have HSS := Lib.hid (HSX.out HSA.out).2.1
      have HSD0 := Lib.hid (HSX.out HSA.out).2.2
      obtain ⟨all, hall⟩ : ∃ x, x = l.map (rkOf v u) := ⟨_, rfl⟩
      have HAN := Lib.hid (show all.length = n by rw [hall, List.length_map]; exact HLN.out)
      have HAS := Lib.hid (show ∀ y ∈ all, smallQ y.q = true from fun y hy => by
        rw [hall] at hy
        obtain ⟨p, hp, rfl⟩ := List.mem_map.1 hy
        exact HSA.out p hp)
      have HAL := Lib.hid (show RanksR w8 av n all from ER.of_owns HAN.out (by
        have := HO8.out
        rw [List.take_of_length_le (Nat.le_of_eq HLN.out), ← hall] at this
        exact this))
      rw [← hall] at HP
      have HSL := Lib.hid (show S.length = n from HP.out.length_eq.trans HAN.out)
      clear HO8 HS8 hall HDS HPO HU HL HSX
      go_wp2
      go_loopw [86, 13] (fun i x wr => ∃ (r : Nat) (ao : Option Addr) (co : Nat), i = .int .i64 r ∧ x = .slice ao r co ∧ r ≤ n ∧ Hid (wr.ownsRow w8.heap.size 122 4 (.slice ao r co) r (ecells rEnc (S.take r))) ∧ Hid (Below w8.heap.size w8 wr)) (fun i _ _ => n - (intOf i).toNat)
      case atStart => exact ⟨0, none, 0, rfl, rfl, Nat.zero_le _, Lib.hid (World.ownsRow_nil _ _ _ _), Lib.hid (Below.refl _ _)⟩
      case round =>
        obtain ⟨r, ao, co, rfl, rfl, hr, hO, hB⟩ := hrel
        obtain ⟨w9, rfl⟩ : ∃ w', w' = wr := ⟨wr, rfl⟩
        have HO9 := Lib.hid hO.out
        have HB9 := Lib.hid hB.out
        have hz9 := HB9.out.size
        clear hO hB
        rcases Nat.lt_or_ge r n with hrn | hrn
        · have r0 : (0 : Int) ≤ (r : Int) := by omega
          have r1 : (r : Int) < (n : Int) := by omega
          obtain ⟨ba, oa, rfl, lba, hca⟩ := RanksR.addr HAL.out (by omega)
          have HCA := Lib.hid hca
          have HOR := Lib.hid (show RanksR w9 ao r (S.take r) from ER.of_owns (by rw [List.length_take, HSL.out]; omega) HO9.out)
          clear hca
          go_wp2
          go_loopw [15, 14] (fun i x wr => ∃ (j : Nat) (bi : Int), i = .int .i64 j ∧ x = .int .i64 bi ∧ j ≤ n ∧ Hid (BestUp all (S.take r) j bi) ∧ Hid (Below w9.heap.size w9 wr)) (fun i _ _ => n - (intOf i).toNat)
          case atStart => exact ⟨0, -1, rfl, rfl, Nat.zero_le _, Lib.hid (best_zero _ _), Lib.hid (Below.refl _ _)⟩
          case round =>
            obtain ⟨j, bi, rfl, rfl, hj, hBU, hB⟩ := hrel
            obtain ⟨wq, rfl⟩ : ∃ w', w' = wr := ⟨wr, rfl⟩
            have HBq := Lib.hid hB.out
            have HB8q := Lib.hid (HB9.out.trans (hB.out.mono hz9))
            have hzq := HBq.out.size
            clear hB
            rcases Nat.lt_or_ge j n with hjn | hjn
            · obtain ⟨⟨s, q, kp⟩, hy⟩ := ER.get HAL.out hjn
              obtain ⟨y0, y1, y2, y3⟩ := HCA.out j _ hy
              rw [← cellB HB8q.out _ _ lba] at y0 y1 y2 y3
              have hqs := HAS.out _ (List.mem_of_getElem? hy)
              have HY := Lib.hid hy
              have HHR := Lib.hid (hasRank_any (S.take r) s ao r co wq (HOR.out.below HBq.out))
              have j0 : (0 : Int) ≤ (j : Int) := by omega
              have j1 : (j : Int) < (n : Int) := by omega
              have lbq : ba < wq.heap.size := by omega
              unfold smallQ at hqs
              simp only [Bool.and_eq_true, wi_iff] at hqs
              clear hy
              cases hh : hasNm (S.take r) s
              rotate_left
              · have HBU := Lib.hid (best_skip hBU.out HY.out hh)
                rw [hh] at HHR
                clear hh hBU
                go_wp2_with fail
                refine HHR.out.mono ?_
                rintro e5 w5 ⟨rfl, rfl⟩
                go_wp2
                go_roundw
                case rel => exact ⟨j + 1, bi, by go_num, rfl, by omega, HBU, HBq⟩
                case measure => simp [intOf]; omega
              · rw [hh] at HHR
                have HH := Lib.hid hh
                clear hh
                by_cases hb1 : bi = -1
                · subst hb1
                  have HBU := Lib.hid (best_first hBU.out HY.out HH.out)
                  clear hBU
                  go_wp2_with fail
                  refine HHR.out.mono ?_
                  rintro e5 w5 ⟨rfl, rfl⟩
                  go_wp2
                  go_roundw
                  case rel => exact ⟨j + 1, (j : Int), by go_num, rfl, by omega, HBU, HBq⟩
                  case measure => simp [intOf]; omega
                · obtain ⟨b, hbj, rfl⟩ : ∃ b : Nat, b < j ∧ bi = (b : Int) := by
                    rcases hBU.out with ⟨h1, _⟩ | ⟨b, _, h1, h2, _⟩
                    · exact absurd h1 hb1
                    · exact ⟨b, h2, h1⟩
                  obtain ⟨⟨s', q', kp'⟩, hx⟩ := ER.get HAL.out (show b < n by omega)
                  obtain ⟨z0, z1, z2, z3⟩ := HCA.out b _ hx
                  rw [← cellB HB8q.out _ _ lba] at z0 z1 z2 z3
                  have hqt := HAS.out _ (List.mem_of_getElem? hx)
                  have HX := Lib.hid hx
                  unfold smallQ at hqt
                  simp only [Bool.and_eq_true, wi_iff] at hqt
                  have b0 : (0 : Int) ≤ (b : Int) := by omega
                  have b1 : (b : Int) < (n : Int) := by omega
                  have bn : ¬ ((b : Int) < 0) := by omega
                  have HKEEP := Lib.hid (fun (h : rkL ⟨s, q, kp⟩ ⟨s', q', kp'⟩ = false) => best_keep hBU.out HX.out HY.out h)
                  have HTAKE := Lib.hid (fun (h : rkL ⟨s, q, kp⟩ ⟨s', q', kp'⟩ = true) => best_take hBU.out HX.out HY.out HH.out h)
                  have e1 : (q' < q) ↔ q'.num * q.den < q.num * q'.den := Rat.lt_iff _ _
                  have e2 : (q < q') ↔ q.num * q'.den < q'.num * q.den := Rat.lt_iff _ _
                  have hL : rkL ⟨s, q, kp⟩ ⟨s', q', kp'⟩ = decide ((if q'.num * q.den < q.num * q'.den then (-1 : Int) else if q.num * q'.den < q'.num * q.den then 1 else if Op.bytesLess s.toList s'.toList = true then -1 else if (s.toList == s'.toList) = true then 0 else 1) < 0) := by
                    unfold rkL rkC
                    simp only [e1, e2]
                  have HLL := Lib.hid hL
                  clear hx hb1 hBU e1 e2 hL
                  generalize rkL ⟨s, q, kp⟩ ⟨s', q', kp'⟩ = RL at *
                  generalize q.num = yn at *
                  generalize (q.den : Int) = yd at *
                  generalize q'.num = xn at *
                  generalize (q'.den : Int) = xd at *
                  have p1 := Int.mul_le_mul_of_nonneg_right hqs.1.2 (show 0 ≤ xd by omega)
                  have p2 := Int.mul_le_mul_of_nonneg_right hqs.1.1 (show 0 ≤ xd by omega)
                  have p3 := Int.mul_le_mul_of_nonneg_right hqt.1.2 (show 0 ≤ yd by omega)
                  have p4 := Int.mul_le_mul_of_nonneg_right hqt.1.1 (show 0 ≤ yd by omega)
                  have HCM := Lib.hid (fun w' => bcmpJ_any yn yd xn xd w' (by omega) (by omega))
                  obtain ⟨U, hU⟩ : ∃ U, U = yn * xd := ⟨_, rfl⟩
                  obtain ⟨V, hV⟩ : ∃ U, U = xn * yd := ⟨_, rfl⟩
                  rw [← hU, ← hV] at HCM HLL
                  clear p1 p2 p3 p4 hU hV hqs hqt
                  rcases Int.lt_trichotomy U V with h | h | h
                  · have HK := Lib.hid (HKEEP.out (by rw [HLL.out, if_neg (by omega), if_pos h]; rfl))
                    have hc : cmpJ U V = -1 := by unfold cmpJ; rw [if_pos h]
                    rw [hc] at HCM
                    clear HKEEP HTAKE HLL hc h
                    go_wp2_with fail
                    refine HHR.out.mono ?_
                    rintro e5 w5 ⟨rfl, rfl⟩
                    go_wp2_with fail
                    refine later_all (by kernel_rfl) (by kernel_rfl) ?_; repeat go_big_quiet_step(exact calls_later (HCM.out _))
                    refine wpQuiet_nil ?_; intro w6 hb6
                    have hz6 := hb6.size
                    have y0b : w6.cell? ⟨ba, oa + j * 4, none⟩ = some (.string s) := by { rw [cellB hb6 _ _ (by first | (simp; done) | (simp; omega) | omega)]; all_goals (first | assumption | go_simp) }; have z0b : w6.cell? ⟨ba, oa + b * 4, none⟩ = some (.string s') := by { rw [cellB hb6 _ _ (by first | (simp; done) | (simp; omega) | omega)]; all_goals (first | assumption | go_simp) }; have lb6 : ba < w6.heap.size := by { omega }
                    have HB6 := Lib.hid (HBq.out.trans (hb6.mono hzq))
                    clear hb6
                    go_wp2_with fail
                    refine later_all (by kernel_rfl) (by kernel_rfl) ?_; repeat go_big_quiet_step(fail)
                    refine wpQuiet_nil ?_; intro w7 hb7
                    have HB7 := Lib.hid (HB6.out.trans (hb7.mono HB6.out.size))
                    clear hb7
                    go_wp2
                    go_roundw
                    case rel => exact ⟨j + 1, (b : Int), by go_num, rfl, by omega, HK, HB7⟩
                    case measure => simp [intOf]; omega
                  · have hc : cmpJ U V = 0 := by unfold cmpJ; rw [if_neg (by omega), if_neg (by omega)]
                    rw [hc] at HCM
                    cases hbl : Op.bytesLess s.toList s'.toList
                    · have HK := Lib.hid (HKEEP.out (by rw [HLL.out, if_neg (by omega), if_neg (by omega), if_neg (by rw [hbl]; decide)]; split <;> rfl))
                      clear HKEEP HTAKE HLL hc h
                      go_wp2_with fail
                      refine HHR.out.mono ?_
                      rintro e5 w5 ⟨rfl, rfl⟩
                      go_wp2_with fail
                      refine later_all (by kernel_rfl) (by kernel_rfl) ?_; repeat go_big_quiet_step(exact calls_later (HCM.out _))
                      refine wpQuiet_nil ?_; intro w6 hb6
                      have hz6 := hb6.size
                      have y0b : w6.cell? ⟨ba, oa + j * 4, none⟩ = some (.string s) := by { rw [cellB hb6 _ _ (by first | (simp; done) | (simp; omega) | omega)]; all_goals (first | assumption | go_simp) }; have z0b : w6.cell? ⟨ba, oa + b * 4, none⟩ = some (.string s') := by { rw [cellB hb6 _ _ (by first | (simp; done) | (simp; omega) | omega)]; all_goals (first | assumption | go_simp) }; have lb6 : ba < w6.heap.size := by { omega }
                      have HB6 := Lib.hid (HBq.out.trans (hb6.mono hzq))
                      clear hb6
                      go_wp2_with fail
                      refine later_all (by kernel_rfl) (by kernel_rfl) ?_; repeat go_big_quiet_step(fail)
                      refine wpQuiet_nil ?_; intro w7 hb7
                      have HB7 := Lib.hid (HB6.out.trans (hb7.mono HB6.out.size))
                      clear hb7
                      go_wp2
                      go_roundw
                      case rel => exact ⟨j + 1, (b : Int), by go_num, rfl, by omega, HK, HB7⟩
                      case measure => simp [intOf]; omega
                    · have HK := Lib.hid (HTAKE.out (by rw [HLL.out, if_neg (by omega), if_neg (by omega), if_pos hbl]; rfl))
                      clear HKEEP HTAKE HLL hc h
                      go_wp2_with fail
                      refine HHR.out.mono ?_
                      rintro e5 w5 ⟨rfl, rfl⟩
                      go_wp2_with fail
                      refine later_all (by kernel_rfl) (by kernel_rfl) ?_; repeat go_big_quiet_step(exact calls_later (HCM.out _))
                      refine wpQuiet_nil ?_; intro w6 hb6
                      have hz6 := hb6.size
                      have y0b : w6.cell? ⟨ba, oa + j * 4, none⟩ = some (.string s) := by { rw [cellB hb6 _ _ (by first | (simp; done) | (simp; omega) | omega)]; all_goals (first | assumption | go_simp) }; have z0b : w6.cell? ⟨ba, oa + b * 4, none⟩ = some (.string s') := by { rw [cellB hb6 _ _ (by first | (simp; done) | (simp; omega) | omega)]; all_goals (first | assumption | go_simp) }; have lb6 : ba < w6.heap.size := by { omega }
                      have HB6 := Lib.hid (HBq.out.trans (hb6.mono hzq))
                      clear hb6
                      go_wp2_with fail
                      refine later_all (by kernel_rfl) (by kernel_rfl) ?_; repeat go_big_quiet_step(fail)
                      refine wpQuiet_nil ?_; intro w7 hb7
                      have HB7 := Lib.hid (HB6.out.trans (hb7.mono HB6.out.size))
                      clear hb7
                      go_wp2
                      go_roundw
                      case rel => exact ⟨j + 1, (j : Int), by go_num, rfl, by omega, HK, HB7⟩
                      case measure => simp [intOf]; omega
                  · have HK := Lib.hid (HTAKE.out (by rw [HLL.out, if_pos h]; rfl))
                    have hc : cmpJ U V = 1 := by unfold cmpJ; rw [if_neg (by omega), if_pos h]
                    rw [hc] at HCM
                    clear HKEEP HTAKE HLL hc h
                    go_wp2_with fail
                    refine HHR.out.mono ?_
                    rintro e5 w5 ⟨rfl, rfl⟩
                    go_wp2_with fail
                    refine later_all (by kernel_rfl) (by kernel_rfl) ?_; repeat go_big_quiet_step(exact calls_later (HCM.out _))
                    refine wpQuiet_nil ?_; intro w6 hb6
                    have hz6 := hb6.size
                    have y0b : w6.cell? ⟨ba, oa + j * 4, none⟩ = some (.string s) := by { rw [cellB hb6 _ _ (by first | (simp; done) | (simp; omega) | omega)]; all_goals (first | assumption | go_simp) }; have z0b : w6.cell? ⟨ba, oa + b * 4, none⟩ = some (.string s') := by { rw [cellB hb6 _ _ (by first | (simp; done) | (simp; omega) | omega)]; all_goals (first | assumption | go_simp) }; have lb6 : ba < w6.heap.size := by { omega }
                    have HB6 := Lib.hid (HBq.out.trans (hb6.mono hzq))
                    clear hb6
                    go_wp2_with fail
                    refine later_all (by kernel_rfl) (by kernel_rfl) ?_; repeat go_big_quiet_step(fail)
                    refine wpQuiet_nil ?_; intro w7 hb7
                    have HB7 := Lib.hid (HB6.out.trans (hb7.mono HB6.out.size))
                    clear hb7
                    go_wp2
                    go_roundw
                    case rel => exact ⟨j + 1, (j : Int), by go_num, rfl, by omega, HK, HB7⟩
                    case measure => simp [intOf]; omega
            · obtain rfl : n = j := by omega
              obtain ⟨b, ⟨s, q, kp⟩, rfl, hbn, hbx, hSr⟩ := best_end hBU.out HAN.out HP.out HSS.out HSD0.out hrn
              obtain ⟨z0, z1, z2, z3⟩ := HCA.out b _ hbx
              rw [← cellB HB8q.out _ _ lba] at z0 z1 z2 z3
              have HTK := Lib.hid (show ecells rEnc (S.take (r + 1)) = ecells rEnc (S.take r) ++ [.string s, .int .i64 q.num, .int .i64 (q.den : Int), .bool kp] by
                rw [take_last hSr, ecells_append, ecells_one]; rfl)
              have HOq := Lib.hid (owns_below HO9.out HBq.out (fun q hq => (HO9.out.lt q hq).2))
              have b0 : (0 : Int) ≤ (b : Int) := by omega
              have b1 : (b : Int) < (n : Int) := by omega
              have lbq : ba < wq.heap.size := by omega
              clear hbx hSr hBU
              generalize q.num = qn at *
              generalize (q.den : Int) = qd at *
              go_wp2_with (at_builtin; refine wpList_append_sl _ rfl _ _ 49 rfl w8.heap.size 122 _ 4 40 Tryz.underlying49 infoRank rfl (by omega) (.slice ao r co) r _ rfl (HOq.out.alloc _) _ 1 1 [.string s, .int .i64 qn, .int .i64 qd, .bool kp] rfl (SlR.lit _ _ _ _ _ 1 4 (by rfl) (by simp) rfl (by omega)) (by simp [Value.oneCell']) (by omega) (by omega) (by simp; omega) ?_)
              intro v8 wz hown8 _ hb8z
              obtain ⟨a8, c8, rfl, _, _⟩ := owns_slice hown8
              have HOz := Lib.hid (show wz.ownsRow w8.heap.size 122 4 (.slice a8 (r + 1) c8) (r + 1) (ecells rEnc (S.take (r + 1))) by rw [HTK.out]; exact hown8)
              have HBz := Lib.hid (show Below w8.heap.size w8 wz from Below.trans (HB8q.out.alloc HB8q.out.size _) hb8z)
              clear hown8 hb8z
              go_wp2
              go_roundw
              case rel => exact ⟨r + 1, a8, c8, by go_num, rfl, by omega, HOz, HBz⟩
              case measure => simp [intOf]; omega
        · obtain rfl : n = r := by omega
          have HRS := Lib.hid (show RanksR w9 ao n S from ER.of_owns HSL.out (by
            have := HO9.out
            rwa [List.take_of_length_le (Nat.le_of_eq HSL.out)] at this))
          clear HO9
          go_wp2
          go_ret2
          exact ⟨HB8.out.trans (HB9.out.mono hz8), .inr ⟨HSA.out, _, _, rfl, HRS.out⟩⟩
end Go.Proofs.YtbjgklifmillgaaGreat
