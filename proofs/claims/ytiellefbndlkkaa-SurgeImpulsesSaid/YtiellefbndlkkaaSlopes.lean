/- The iterator over the slopes of an impulse. -/
import Derived.Test.YtiellefbndlkkaaRngLaw
import Derived.Test.YtiellefbndlkkaaImpVal
import Derived.Test.YtiellefbndlkkaaSchedT
import Derived.Deep.CutRange
import Derived.Shelf.RegionOpen
import Derived.Stop.RegionWithIn
namespace Go.Proofs.Ytiellefbndlkkaa
open Go.RowKit Go.Shelf
set_option linter.unusedVariables false
attribute [local go_sem] Oper.semAt_some

/-- Whatever is cells lies as it lay, but for two blocks. -/
def KeepC (X7 X8 : Nat) (A B : World) : Prop := ∀ k c t z, k ≠ X7 → k ≠ X8 → A.heap[k]? = some (.cells c t z) → B.heap[k]? = some (.cells c t z)
theorem block_of_cell {w : World} {b o : Nat} {v : Value} (h : w.cell? ⟨b, o, none⟩ = some v) : ∃ c t z, w.heap[b]? = some (.cells c t z) := by
  unfold World.cell? at h
  cases ho : w.heap[b]? with
  | none => simp [ho] at h
  | some ob => cases ob <;> simp_all
theorem cell_same {A B : World} {b o : Nat} (h : B.heap[b]? = A.heap[b]?) : B.cell? ⟨b, o, none⟩ = A.cell? ⟨b, o, none⟩ := by
  unfold World.cell?; rw [h]

set_option maxHeartbeats 4000000 in
set_option maxRecDepth 100000 in
theorem slopes_calls (l : List (Int × Int)) (b0 o0 n c X7 X8 lr : Nat) (J : Nat → World → Prop) (W : World) (hl0 : (impErr l).2 = 0) (hl : PairsR W (some ⟨b0, o0, none⟩) n l) (hb7 : b0 ≠ X7) (hb8 : b0 ≠ X8) (h7 : X7 < W.heap.size) (h8 : X8 < W.heap.size)
    (hJ : ∀ k A B, J k A → Below A.heap.size A B → J k B)
    (hY : ∀ k A, k + 1 < n → J k A → YieldAt Fence.wide 1 Try.prog lr #[.int .i64 k, .agg #[.int .i64 (slOf l k).1, .int .i64 (slOf l k).2]] A (fun e B => e = .returned (.bool true) ∧ J (k + 1) B ∧ KeepC X7 X8 A B))
    (h0 : J 0 W) :
    Calls Try.prog 118 #[.agg #[.slice (some ⟨b0, o0, none⟩) n c], .func (.yield lr) #[] #[]] W (fun e B => (∃ v, e = .returned v) ∧ J (n - 1) B) := by
  have hz := impErr_zero hl0
  have hlen := hl.len
  rw [hlen] at hz
  obtain ⟨hn2, hn12, _⟩ := hz
  obtain ⟨b0', o0', he, hb0, hc0⟩ := hl.addr (by omega)
  obtain ⟨rfl, rfl⟩ : b0 = b0' ∧ o0 = o0' := by simpa using he
  have HLN := Lib.hid hlen
  have HC0 := Lib.hid hc0
  have HL0 := Lib.hid hl0
  have HJ := Lib.hid hJ
  have HY := Lib.hid hY
  obtain ⟨cb, tb, zb, hcb⟩ := block_of_cell (hc0 0 (by omega)).1
  clear he hl hc0 hl0 hJ hY
  go_enter Try.func118, Try.ntmps118
  go_wp2
  have hx8 : (W.alloc (Obj.cells #[.slice (some ⟨b0, o0, none⟩) n c] 165)).heap[W.heap.size]? = some (.cells #[.slice (some ⟨b0, o0, none⟩) n c] 165) := heap_alloc_new _ _
  have hb8 : Below W.heap.size W (W.alloc (Obj.cells #[.slice (some ⟨b0, o0, none⟩) n c] 165)) := by (repeat' (first | (with_reducible exact Below.refl _ _) | (with_reducible assumption) | (with_reducible refine Below.drewN ?_ _) | (with_reducible refine Below.alloc ?_ ?_ _) | (with_reducible refine Below.drew ?_) | (with_reducible refine Below.setCell ?_ ?_ _) | (with_reducible refine Below.step (by assumption) ?_ ?_) | (with_reducible exact And.left (by assumption)) | go_size))
  have hcb8 := (hb8.block b0 hb0).trans hcb
  have hJ8 := HJ.out _ _ _ h0 hb8
  generalize W.alloc (Obj.cells #[.slice (some ⟨b0, o0, none⟩) n c] 165) = w8 at *
  obtain ⟨XB, hXB⟩ : ∃ XB, XB = W.heap.size := ⟨_, rfl⟩
  rw [← hXB] at hx8
  simp only [← hXB]
  have hX7 : XB ≠ X7 := by omega
  have hX8 : XB ≠ X8 := by omega
  clear hXB hb8 h0
  go_loopw [4] (fun i wr => ∃ k : Nat, i = .int .i64 ((k : Int) + 1) ∧ k + 1 ≤ n ∧ J k wr ∧ wr.heap[XB]? = some (.cells #[.slice (some ⟨b0, o0, none⟩) n c] 165) ∧ wr.heap[b0]? = some (.cells cb tb zb)) (fun i _ => n - (intOf i).toNat)
  case atStart => exact ⟨0, rfl, by omega, hJ8, hx8, hcb8⟩
  case round =>
    clear hJ8 hx8 hcb8
    obtain ⟨k, rfl, hk, hJs, hx, hb⟩ := hrel
    have cx := cell_of_row _ _ 0 _ _ _ hx
    simp only [List.getElem?_toArray, List.getElem?_cons_zero] at cx
    have i0 : (0 : Int) ≤ (k : Int) := by omega
    rcases Nat.lt_or_ge (k + 1) n with hlt | hge
    · obtain ⟨tA, htA⟩ : ∃ t, t = (gp l k).1 := ⟨_, rfl⟩
      obtain ⟨vA, hvA⟩ : ∃ t, t = (gp l k).2 := ⟨_, rfl⟩
      obtain ⟨tB, htB⟩ : ∃ t, t = (gp l (k + 1)).1 := ⟨_, rfl⟩
      obtain ⟨vB, hvB⟩ : ∃ t, t = (gp l (k + 1)).2 := ⟨_, rfl⟩
      have hsame := hb.trans hcb.symm
      have cA0 : wr.cell? ⟨b0, o0 + k * 2, none⟩ = some (.int .i64 tA) := by rw [cell_same hsame, htA]; exact (HC0.out k (by omega)).1
      have cA1 : wr.cell? ⟨b0, o0 + k * 2 + 1, none⟩ = some (.int .i64 vA) := by rw [cell_same hsame, hvA]; exact (HC0.out k (by omega)).2
      have cB0 : wr.cell? ⟨b0, o0 + (k + 1) * 2, none⟩ = some (.int .i64 tB) := by rw [cell_same hsame, htB]; exact (HC0.out (k + 1) hlt).1
      have cB1 : wr.cell? ⟨b0, o0 + (k + 1) * 2 + 1, none⟩ = some (.int .i64 vB) := by rw [cell_same hsame, hvB]; exact (HC0.out (k + 1) hlt).2
      have hraw := sl_raw HL0.out (i := k) (by rw [HLN.out]; exact hlt)
      rw [← htA, ← hvA, ← htB, ← hvB] at hraw
      have hsz := sz_bd (M := 2000000) hraw.1 hraw.2.1
      obtain ⟨⟨S1, S2⟩, hS⟩ : ∃ s, s = slOf l k := ⟨_, rfl⟩
      have hS' : (S1, S2) = low (sz (vB - vA)) (tB - tA) := by rw [hS]; unfold slOf; rw [htA, hvA, htB, hvB]
      have hlow := fun w' => lowest_any (sz (vB - vA)) (tB - tA) w' (by omega) (by omega) (by omega) (by omega)
      rw [show (sz (vB - vA)).tdiv (gc (sz (vB - vA)) (tB - tA)) = S1 from (congrArg Prod.fst hS').symm, show (tB - tA) / gc (sz (vB - vA)) (tB - tA) = S2 from (congrArg Prod.snd hS').symm] at hlow
      have HLOW := Lib.hid hlow
      have hY := fun A hA => HY.out k A hlt hA
      rw [← hS] at hY
      have HYK := Lib.hid hY
      have i1 : (k : Int) + 1 < (n : Int) := by omega
      have i2 : (k : Int) < (n : Int) := by omega
      have lb0 := (Array.getElem?_eq_some_iff.1 hb).1
      have lXB := (Array.getElem?_eq_some_iff.1 hx).1
      clear htA hvA htB hvB hsame hS hS' hlow hY
      go_wp2
      go_cut [5, 6] from 7 to 44 (fun v5 v6 wx => ∃ XA XC, v5 = .pointer (some ⟨XA, 0, none⟩) ∧ v6 = .pointer (some ⟨XC, 0, none⟩) ∧ wx.cell? ⟨XA, 0, none⟩ = some (.int .i64 tA) ∧ wx.cell? ⟨XA, 1, none⟩ = some (.int .i64 vA) ∧ wx.cell? ⟨XC, 0, none⟩ = some (.int .i64 tB) ∧ wx.cell? ⟨XC, 1, none⟩ = some (.int .i64 vB) ∧ XA < wx.heap.size ∧ XC < wx.heap.size ∧ Hid (Below wr.heap.size wr wx))
      case first =>
        refine wp_region_laterT (B := wr.heap.size) (.head 0 (.head 1 (.head 2 (.head 3 (.head 4 (.head 5 (.head 6 (.head 7 (.head 8 (.head 9 (.head 10 (.head 11 (.head 12 (.two 13 (.one 14 (.one 15 (.one 16 .done))) 14 (.one 13 (.one 15 (.one 16 .done))))))))))))))))) (by kernel_rfl) (by kernel_rfl) ?_
        repeat (refine tree_head rfl ?_; (show wpQuiet _ _ _ _ (_ :: _) _; go_big_quiet_step (fail)); refine wpQuiet_nil ?_)
        refine tree_two rfl rfl ?_ ?_
        · go_wp2_with fail
          refine tailL_mk (by (repeat' (first | (with_reducible exact Below.refl _ _) | (with_reducible assumption) | (with_reducible refine Below.drewN ?_ _) | (with_reducible refine Below.alloc ?_ ?_ _) | (with_reducible refine Below.drew ?_) | (with_reducible refine Below.setCell ?_ ?_ _) | (with_reducible refine Below.step (by assumption) ?_ ?_) | (with_reducible exact And.left (by assumption)) | go_size))) ?_
          refine tree_one rfl ?_; go_wp2_with fail
          refine tailL_mk (by (repeat' (first | (with_reducible exact Below.refl _ _) | (with_reducible assumption) | (with_reducible refine Below.drewN ?_ _) | (with_reducible refine Below.alloc ?_ ?_ _) | (with_reducible refine Below.drew ?_) | (with_reducible refine Below.setCell ?_ ?_ _) | (with_reducible refine Below.step (by assumption) ?_ ?_) | (with_reducible exact And.left (by assumption)) | go_size))) ?_
          refine tree_one rfl ?_; go_wp2_with fail
          refine tailL_mk (by (repeat' (first | (with_reducible exact Below.refl _ _) | (with_reducible assumption) | (with_reducible refine Below.drewN ?_ _) | (with_reducible refine Below.alloc ?_ ?_ _) | (with_reducible refine Below.drew ?_) | (with_reducible refine Below.setCell ?_ ?_ _) | (with_reducible refine Below.step (by assumption) ?_ ?_) | (with_reducible exact And.left (by assumption)) | go_size))) ?_
          refine tree_one rfl ?_; go_wp2_with fail
          refine tailL_mk (by (repeat' (first | (with_reducible exact Below.refl _ _) | (with_reducible assumption) | (with_reducible refine Below.drewN ?_ _) | (with_reducible refine Below.alloc ?_ ?_ _) | (with_reducible refine Below.drew ?_) | (with_reducible refine Below.setCell ?_ ?_ _) | (with_reducible refine Below.step (by assumption) ?_ ?_) | (with_reducible exact And.left (by assumption)) | go_size))) ?_
          refine tree_done ?_
          go_wp2_with fail
          go_meet
          case rel => exact ⟨_, _, rfl, rfl, by go_simp, by go_simp, by go_simp, by go_simp, by (simp; try omega), by (simp; try omega), Lib.hid (by (repeat' (first | (with_reducible exact Below.refl _ _) | (with_reducible assumption) | (with_reducible refine Below.drewN ?_ _) | (with_reducible refine Below.alloc ?_ ?_ _) | (with_reducible refine Below.drew ?_) | (with_reducible refine Below.setCell ?_ ?_ _) | (with_reducible refine Below.step (by assumption) ?_ ?_) | (with_reducible exact And.left (by assumption)) | go_size)))⟩
        · go_wp2_with fail
          refine tailL_mk (by (repeat' (first | (with_reducible exact Below.refl _ _) | (with_reducible assumption) | (with_reducible refine Below.drewN ?_ _) | (with_reducible refine Below.alloc ?_ ?_ _) | (with_reducible refine Below.drew ?_) | (with_reducible refine Below.setCell ?_ ?_ _) | (with_reducible refine Below.step (by assumption) ?_ ?_) | (with_reducible exact And.left (by assumption)) | go_size))) ?_
          refine tree_one rfl ?_; go_wp2_with fail
          refine tailL_mk (by (repeat' (first | (with_reducible exact Below.refl _ _) | (with_reducible assumption) | (with_reducible refine Below.drewN ?_ _) | (with_reducible refine Below.alloc ?_ ?_ _) | (with_reducible refine Below.drew ?_) | (with_reducible refine Below.setCell ?_ ?_ _) | (with_reducible refine Below.step (by assumption) ?_ ?_) | (with_reducible exact And.left (by assumption)) | go_size))) ?_
          refine tree_one rfl ?_; go_wp2_with fail
          refine tailL_mk (by (repeat' (first | (with_reducible exact Below.refl _ _) | (with_reducible assumption) | (with_reducible refine Below.drewN ?_ _) | (with_reducible refine Below.alloc ?_ ?_ _) | (with_reducible refine Below.drew ?_) | (with_reducible refine Below.setCell ?_ ?_ _) | (with_reducible refine Below.step (by assumption) ?_ ?_) | (with_reducible exact And.left (by assumption)) | go_size))) ?_
          refine tree_one rfl ?_; go_wp2_with fail
          refine tailL_mk (by (repeat' (first | (with_reducible exact Below.refl _ _) | (with_reducible assumption) | (with_reducible refine Below.drewN ?_ _) | (with_reducible refine Below.alloc ?_ ?_ _) | (with_reducible refine Below.drew ?_) | (with_reducible refine Below.setCell ?_ ?_ _) | (with_reducible refine Below.step (by assumption) ?_ ?_) | (with_reducible exact And.left (by assumption)) | go_size))) ?_
          refine tree_done ?_
          go_wp2_with fail
          go_meet
          case rel => exact ⟨_, _, rfl, rfl, by go_simp, by go_simp, by go_simp, by go_simp, by (simp; try omega), by (simp; try omega), Lib.hid (by (repeat' (first | (with_reducible exact Below.refl _ _) | (with_reducible assumption) | (with_reducible refine Below.drewN ?_ _) | (with_reducible refine Below.alloc ?_ ?_ _) | (with_reducible refine Below.drew ?_) | (with_reducible refine Below.setCell ?_ ?_ _) | (with_reducible refine Below.step (by assumption) ?_ ?_) | (with_reducible exact And.left (by assumption)) | go_size)))⟩
      case rest =>
        obtain ⟨XA, XC, rfl, rfl, a0, a1, e0, e1, lA, lC, HBc⟩ := hcut
        have hJc := HJ.out _ _ _ hJs HBc.out
        have hxc := (HBc.out.block XB lXB).trans hx
        have hbc := (HBc.out.block b0 lb0).trans hb
        clear hJs hx hb cx cA0 cA1 cB0 cB1 HBc
        go_wp2_with fail
        go_cut [44] from 28 to 44 (fun v44 wx => v44 = .bool false ∧ J (k + 1) wx ∧ wx.heap[XB]? = some (.cells #[.slice (some ⟨b0, o0, none⟩) n c] 165) ∧ wx.heap[b0]? = some (.cells cb tb zb))
        case first =>
          have hwr : IntKind.i64.wrap (vB - vA) = vB - vA := by rw [IntKind.wrap_i64]; omega
          have hwr2 : IntKind.i64.wrap (tB - tA) = tB - tA := by rw [IntKind.wrap_i64]; omega
          have hwr3 : IntKind.i64.wrap (k : Int) = k := by rw [IntKind.wrap_i64]; omega
          have hsz' := fun w' => (callsIn_wide (n := 1)).2 (size_any (vB - vA) w' (by omega) (by omega))
          have hlo' := fun w' => (callsIn_wide (n := 1)).2 (HLOW.out w')
          refine (wpIn_wide (n := 2)).1 ?_
          have lXc := (Array.getElem?_eq_some_iff.1 hxc).1
          have lbc := (Array.getElem?_eq_some_iff.1 hbc).1
          gi_region_with (first
            | (refine hR.mono ?_; rintro e W' ⟨rfl, hJ2, hK2⟩)
            | (gi_at_call 120; refine (hsz' _).mono ?_; rintro e w' ⟨rfl, rfl⟩)
            | (gi_at_call 94; refine (hlo' _).mono ?_; rintro e w' ⟨rfl, hbl⟩; have hbw : Below wc.heap.size wc w' := Below.trans (by (repeat' (first | (with_reducible exact Below.refl _ _) | (with_reducible assumption) | (with_reducible refine Below.drewN ?_ _) | (with_reducible refine Below.alloc ?_ ?_ _) | (with_reducible refine Below.drew ?_) | (with_reducible refine Below.setCell ?_ ?_ _) | (with_reducible refine Below.step (by assumption) ?_ ?_) | (with_reducible exact And.left (by assumption)) | go_size))) (hbl.mono (by simp)); obtain ⟨fn, tmps, assign, body, hy, hR⟩ := HYK.out _ (HJ.out _ _ _ hJc hbw); have hxw := (hbw.block XB lXc).trans hxc; have hbb := (hbw.block b0 lbc).trans hbc; clear hbl hbw)
            | (refine ⟨trivial, ?_⟩; first
                | (gi_at_call 120; try rw [hwr]; refine (hsz' _).mono ?_; rintro e w' ⟨rfl, rfl⟩)
                | (gi_at_call 94; try rw [hwr2]; refine (hlo' _).mono ?_; rintro e w' ⟨rfl, hbl⟩; have hbw : Below wc.heap.size wc w' := Below.trans (by (repeat' (first | (with_reducible exact Below.refl _ _) | (with_reducible assumption) | (with_reducible refine Below.drewN ?_ _) | (with_reducible refine Below.alloc ?_ ?_ _) | (with_reducible refine Below.drew ?_) | (with_reducible refine Below.setCell ?_ ?_ _) | (with_reducible refine Below.step (by assumption) ?_ ?_) | (with_reducible exact And.left (by assumption)) | go_size))) (hbl.mono (by simp)); obtain ⟨fn, tmps, assign, body, hy, hR⟩ := HYK.out _ (HJ.out _ _ _ hJc hbw); have hxw := (hbw.block XB lXc).trans hxc; have hbb := (hbw.block b0 lbc).trans hbc; clear hbl hbw)))
          all_goals
            try gi_wp2
            go_meet
          all_goals exact ⟨rfl, hJ2, hK2 XB _ _ _ hX7 hX8 hxw, hK2 b0 _ _ _ hb7 hb8 hbb⟩
        case rest =>
          obtain ⟨rfl, hJn, hxn, hbn⟩ := hcut
          go_wp2
          go_roundw
          case rel => exact ⟨k + 1, by go_num, by omega, hJn, hxn, hbn⟩
          case measure => simp [intOf]; omega
    · obtain rfl : n = k + 1 := by omega
      go_wp2
      go_end0
      exact ⟨⟨_, rfl⟩, by rw [Nat.add_sub_cancel]; exact hJs⟩
end Go.Proofs.Ytiellefbndlkkaa
