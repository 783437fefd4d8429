import Derived.Deep.CutRange
import Derived.Test.YtkphbibonagkfaaGreatProg
import Derived.LoopNIn
import Derived.LoopIn
import Derived.Shelf.RegionOpen
import Derived.Test.YtkphbibonagkfaaGreatMRoundTr
/- The iterator over all ordered pairs of different sensors. -/
namespace Go.Proofs.YtkphbibonagkfaaGreat
open Go.RowKit Go.Shelf
set_option linter.unusedVariables false
attribute [local go_sem] Oper.semAt_some

/-- Cells from B on are kept. -/
def KeepF (B : Nat) (A A' : World) : Prop := ∀ k c t z, B ≤ k → A.heap[k]? = some (.cells c t z) → A'.heap[k]? = some (.cells c t z)
set_option maxHeartbeats 4000000 in
set_option maxRecDepth 100000 in
theorem pairs_calls (v0 v1 v2 v3 v4 v5 v6 v7 v8 : Value) (a : Option Addr) (n c lr : Nat) (J : Nat → World → Prop) (Jx : World → Prop) (W : World) (hn : n ≤ 1000)
    (hJ : ∀ k A B, J k A → Below A.heap.size A B → J k B)
    (hskip : ∀ i A, i < n → J (i * n + i) A → J (i * n + i + 1) A)
    (hY : ∀ i j A, i < n → j < n → i ≠ j → J (i * n + j) A → YieldAt Fence.wide 1 Tryz.prog lr #[.int .i64 i, .int .i64 j] A (fun e B => (e = .returned (.bool true) ∧ J (i * n + j + 1) B ∧ KeepF W.heap.size A B) ∨ (e = .returned (.bool false) ∧ Jx B)))
    (h0 : J 0 W) :
    Calls Tryz.prog 146 #[.agg #[v0, v1, v2, v3, v4, v5, v6, v7, v8, .slice a n c], .func (.yield lr) #[] #[]] W (fun e B => (∃ v, e = .returned v) ∧ (J (n * n) B ∨ Jx B)) := by
  have HJ := Lib.hid hJ
  have HY := Lib.hid hY
  have HSK := Lib.hid hskip
  clear hJ hY hskip
  go_enter Tryz.func146, Tryz.ntmps146
  go_wp2_with fail
  generalize hW : World.alloc _ _ = w8
  have hx8 : w8.heap[W.heap.size]? = some (.cells #[v0, v1, v2, v3, v4, v5, v6, v7, v8, .slice a n c] 161) := by rw [← hW]; exact heap_alloc_new _ _
  have hb8 : Below W.heap.size W w8 := by rw [← hW]; (repeat' (first | (with_reducible exact Below.refl _ _) | (with_reducible assumption) | (with_reducible refine Below.drewN ?_ _) | (with_reducible refine Below.alloc ?_ ?_ _) | (with_reducible refine Below.drew ?_) | (with_reducible refine Below.setCell ?_ ?_ _) | (with_reducible refine Below.step (by assumption) ?_ ?_) | (with_reducible exact And.left (by assumption)) | go_size))
  have hJ8 := HJ.out _ _ _ h0 hb8
  clear hW hb8 h0
  obtain ⟨XB, hXB⟩ : ∃ X, X = W.heap.size := ⟨_, rfl⟩
  rw [← hXB] at hx8 HY
  simp only [← hXB]
  clear hXB
  go_loopw [10] (fun x wr => ∃ i : Nat, x = .int .i64 i ∧ i ≤ n ∧ J (i * n) wr ∧ wr.heap[XB]? = some (.cells #[v0, v1, v2, v3, v4, v5, v6, v7, v8, .slice a n c] 161)) (fun x _ => n - (intOf x).toNat)
  case atStart => exact ⟨0, rfl, Nat.zero_le _, by rw [Nat.zero_mul]; exact hJ8, hx8⟩
  case round =>
    clear hJ8 hx8
    obtain ⟨i, rfl, hi, hJi, hx⟩ := hrel
    have i0 : (0 : Int) ≤ (i : Int) := by omega
    rcases Nat.lt_or_ge i n with hlt | hge
    · have cx := cell_of_row _ _ 9 _ _ _ hx
      simp only [List.getElem?_toArray, List.getElem?_cons_zero, List.getElem?_cons_succ] at cx
      have i1 : (i : Int) < (n : Int) := by omega
      go_wp2_with fail
      clear cx
      go_loopw [17] (fun x wr => ∃ j : Nat, x = .int .i64 j ∧ j ≤ n ∧ J (i * n + j) wr ∧ wr.heap[XB]? = some (.cells #[v0, v1, v2, v3, v4, v5, v6, v7, v8, .slice a n c] 161)) (fun x _ => n - (intOf x).toNat)
      case atStart => exact ⟨0, rfl, Nat.zero_le _, hJi, hx⟩
      case round =>
        clear hJi hx
        obtain ⟨j, rfl, hj, hJj, hx⟩ := hrel
        have j0 : (0 : Int) ≤ (j : Int) := by omega
        rcases Nat.lt_or_ge j n with hltj | hgej
        · have j1 : (j : Int) < (n : Int) := by omega
          by_cases hij : i = j
          · subst hij
            have hs := HSK.out i _ hlt hJj
            have hne : ((i : Int) != (i : Int)) = false := by simp
            go_wp2
            go_roundw
            case rel => exact ⟨i + 1, by go_num, by omega, hs, hx⟩
            case measure => simp [intOf]; omega
          · have hne : ((i : Int) != (j : Int)) = true := by simp; omega
            obtain ⟨fn, tmps, assign, body, hy, hR⟩ := HY.out i j _ hlt hltj hij hJj
            go_upto_region 7 with (fail)
            go_cut [29] from 20 to 29 (fun v29 wx => (v29 = .bool false ∧ J (i * n + j + 1) wx ∧ wx.heap[XB]? = some (.cells #[v0, v1, v2, v3, v4, v5, v6, v7, v8, .slice a n c] 161)) ∨ (v29 = .bool true ∧ Jx wx))
            case first =>
              refine (wpIn_wide (n := 2)).1 ?_
              gi_wp2
              refine hR.mono ?_
              rintro e W' (⟨rfl, hJ2, hK2⟩ | ⟨rfl, hJx⟩)
              · gi_wp2
                go_meet
                exact .inl ⟨rfl, hJ2, hK2 XB _ _ _ (Nat.le_refl _) hx⟩
              · gi_wp2
                go_meet
                exact .inr ⟨rfl, hJx⟩
            case rest =>
              rcases hcut with ⟨rfl, hJ2, hx2⟩ | ⟨rfl, hJ2⟩
              · go_wp2
                go_roundw
                case rel => exact ⟨j + 1, by go_num, by omega, hJ2, hx2⟩
                case measure => simp [intOf]; omega
              · go_wp2
                refine bodyPost_ret (results_none rfl _ _ _) rfl ?_
                exact ⟨⟨_, rfl⟩, .inr hJ2⟩
        · obtain rfl : j = n := by omega
          go_wp2
          go_roundw
          case rel => exact ⟨i + 1, by go_num, by omega, by rw [Nat.succ_mul]; exact hJj, hx⟩
          case measure => simp [intOf]; omega
    · obtain rfl : i = n := by omega
      go_wp2
      go_end0
      exact ⟨⟨_, rfl⟩, .inl hJi⟩
end Go.Proofs.YtkphbibonagkfaaGreat
