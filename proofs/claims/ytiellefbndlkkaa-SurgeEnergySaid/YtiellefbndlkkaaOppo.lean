/- The opposite state. -/
import Derived.Test.YtiellefbndlkkaaEnergy
import Derived.Test.YtiellefbndlkkaaSchedZ
import Derived.Test.YtiellefbndlkkaaPlainStep
namespace Go.Proofs.Ytiellefbndlkkaa
open Go.RowKit
set_option linter.unusedVariables false

def ng (l : List Int) : List Int := l.map (- ·)
theorem ng_len (l : List Int) : (ng l).length = l.length := by simp [ng]
theorem ng_take {l : List Int} {k : Nat} (h : k < l.length) : ng (l.take (k + 1)) = ng (l.take k) ++ [-(g0 l k)] := by
  have : l.take (k + 1) = l.take k ++ [g0 l k] := by
    rw [List.take_succ_eq_append_getElem h]
    simp [g0, List.getD, h]
  rw [this]; simp [ng]
set_option maxHeartbeats 1000000 in
set_option maxRecDepth 100000 in
theorem opposite_any (f b : List Int) (a1 a2 : Option Addr) (n1 c1 n2 c2 : Nat) (w : World) (hf : IntsR w a1 n1 f) (hb : IntsR w a2 n2 b) (hn1 : n1 ≤ 100) (hn2 : n2 ≤ 100) (hfb : ∀ x ∈ f, -1000000 ≤ x ∧ x ≤ 1000000) (hbb : ∀ x ∈ b, -1000000 ≤ x ∧ x ≤ 1000000) :
    Calls Try.prog 21 #[.agg #[.slice a1 n1 c1, .slice a2 n2 c2]] w fun e' w' => ∃ a3 c3 a4 c4, e' = .returned (.agg #[.slice a3 n1 c3, .slice a4 n2 c4]) ∧ Below w.heap.size w w' ∧ IntsR w' a3 n1 (ng f) ∧ IntsR w' a4 n2 (ng b) := by
  have HF := Lib.hid hf
  have HB := Lib.hid hb
  have HFB := Lib.hid hfb
  have HBB := Lib.hid hbb
  clear hf hb hfb hbb
  go_enter Try.func21, Try.ntmps21
  go_wp2
  generalize hW : ((w.alloc _).alloc _).alloc _ = w8
  have q0 : w8.cell? ⟨w.heap.size, 0, none⟩ = some (.slice a1 n1 c1) := by { rw [← hW]; clear hW; go_simp }
  have q1 : w8.cell? ⟨w.heap.size, 1, none⟩ = some (.slice a2 n2 c2) := by { rw [← hW]; clear hW; go_simp }
  have p0 : w8.cell? ⟨w.heap.size + 1, 0, none⟩ = some (.slice none 0 0) := by { rw [← hW]; clear hW; go_simp }
  have p1 : w8.cell? ⟨w.heap.size + 1, 1, none⟩ = some (.slice none 0 0) := by { rw [← hW]; clear hW; go_simp }
  have f0 : w8.frozen? ⟨w.heap.size + 1, 0, none⟩ = false := by { rw [← hW]; clear hW; go_simp }
  have f1 : w8.frozen? ⟨w.heap.size + 1, 1, none⟩ = false := by { rw [← hW]; clear hW; go_simp }
  have co : w8.cell? ⟨w.heap.size + 1 + 1, 0, none⟩ = some (.slice none 0 0) := by { rw [← hW]; clear hW; go_simp }
  have co1 : w8.cell? ⟨w.heap.size + 1 + 1, 1, none⟩ = some (.slice none 0 0) := by { rw [← hW]; clear hW; go_simp }
  have fo : w8.frozen? ⟨w.heap.size + 1 + 1, 0, none⟩ = false := by { rw [← hW]; clear hW; go_simp }
  have fo1 : w8.frozen? ⟨w.heap.size + 1 + 1, 1, none⟩ = false := by { rw [← hW]; clear hW; go_simp }
  have lo : w.heap.size + 1 + 1 < w8.heap.size := by { rw [← hW]; simp }
  have HB8 := Lib.hid (show Below w.heap.size w w8 by rw [← hW]; (repeat' (first | (with_reducible exact Below.refl _ _) | (with_reducible assumption) | (with_reducible refine Below.drewN ?_ _) | (with_reducible refine Below.alloc ?_ ?_ _) | (with_reducible refine Below.drew ?_) | (with_reducible refine Below.setCell ?_ ?_ _) | (with_reducible refine Below.step (by assumption) ?_ ?_) | (with_reducible exact And.left (by assumption)) | go_size)))
  clear hW
  obtain ⟨BO, hBO⟩ : ∃ BO, BO = w.heap.size + 1 + 1 := ⟨_, rfl⟩
  rw [← hBO] at co co1 fo fo1 lo
  simp only [← hBO]
  obtain ⟨B, hB1⟩ : ∃ B, B = BO + 1 := ⟨_, rfl⟩
  have j0 : w.heap.size < B := by omega
  have j1 : w.heap.size + 1 < B := by omega
  have jo : BO < B := by omega
  have jn : w.heap.size + 1 < BO := by omega
  have jB : BO + 1 ≤ B ∧ B ≤ BO + 1 := by omega
  clear hBO hB1
  go_loopw [4] (fun i wr => ∃ k : Nat, i = .int .i64 k ∧ k ≤ n1 ∧ (∃ av cv, wr.cell? ⟨BO, 0, none⟩ = some (.slice av k cv) ∧ Hid (wr.ownsRow B 3 1 (.slice av k cv) k (icells (ng (f.take k))))) ∧ wr.cell? ⟨BO, 1, none⟩ = some (.slice none 0 0) ∧ wr.frozen? ⟨BO, 0, none⟩ = false ∧ wr.frozen? ⟨BO, 1, none⟩ = false ∧ BO < wr.heap.size ∧ Hid (Below BO w8 wr)) (fun i _ => n1 - (intOf i).toNat)
  case atStart => exact ⟨0, rfl, Nat.zero_le _, ⟨none, 0, co, Lib.hid (World.ownsRow_nil _ _ _ _)⟩, co1, fo, fo1, lo, Lib.hid (Below.refl _ _)⟩
  case round =>
    clear co fo lo co1 fo1
    obtain ⟨k, rfl, hk, ⟨av, cv, co, hO⟩, co1, fo, fo1, lo, hB⟩ := hrel
    have hbr := hB.out
    have q0' : wr.cell? ⟨w.heap.size, 0, none⟩ = some (.slice a1 n1 c1) := by { rw [cellB hbr _ _ (by first | (simp; done) | (simp; omega) | omega)]; all_goals (first | assumption | go_simp) }; have q1' : wr.cell? ⟨w.heap.size, 1, none⟩ = some (.slice a2 n2 c2) := by { rw [cellB hbr _ _ (by first | (simp; done) | (simp; omega) | omega)]; all_goals (first | assumption | go_simp) }; have p0' : wr.cell? ⟨w.heap.size + 1, 0, none⟩ = some (.slice none 0 0) := by { rw [cellB hbr _ _ (by first | (simp; done) | (simp; omega) | omega)]; all_goals (first | assumption | go_simp) }; have p1' : wr.cell? ⟨w.heap.size + 1, 1, none⟩ = some (.slice none 0 0) := by { rw [cellB hbr _ _ (by first | (simp; done) | (simp; omega) | omega)]; all_goals (first | assumption | go_simp) }; have f0' : wr.frozen? ⟨w.heap.size + 1, 0, none⟩ = false := by { rw [frozenB hbr _ _ (by first | (simp; done) | (simp; omega) | omega)]; all_goals (first | assumption | go_simp) }; have f1' : wr.frozen? ⟨w.heap.size + 1, 1, none⟩ = false := by { rw [frozenB hbr _ _ (by first | (simp; done) | (simp; omega) | omega)]; all_goals (first | assumption | go_simp) }
    have HBw := Lib.hid (HB8.out.trans (hbr.mono (by omega)))
    clear hbr q0 q1 p0 p1 f0 f1
    rcases Nat.lt_or_ge k n1 with hlt | hge
    ·
      obtain ⟨b0, o0, rfl, hb0, hc0⟩ := HF.out.addr (by omega)
      obtain ⟨X, hX⟩ : ∃ X, X = g0 f k := ⟨_, rfl⟩
      have cx : wr.cell? ⟨b0, o0 + k, none⟩ = some (.int .i64 X) := by rw [cellB HBw.out _ _ hb0, hX]; exact hc0 k hlt
      have bx : -1000000 ≤ X ∧ X ≤ 1000000 := by rw [hX]; exact HFB.out _ (getD_mem (by rw [HF.out.len]; exact hlt))
      have i0 : (0 : Int) ≤ (k : Int) := by omega
      have i1 : (k : Int) < (n1 : Int) := by omega
      have jb : b0 < B := by omega
      have HTK := Lib.hid (show ng (f.take (k + 1)) = ng (f.take k) ++ [-X] by rw [hX]; exact ng_take (by rw [HF.out.len]; exact hlt))
      clear hX hc0
      go_wp2_with fail
      refine wp_region_laterZ (B := B) [0, 1, 2, 3, 4, 5, 6, 7] [8, 9, 10, 11] 11 (by kernel_rfl) (by kernel_rfl) ?_; simp only [List.filterMap_cons, List.filterMap_nil, List.getElem?_cons_zero, List.getElem?_cons_succ]; repeat (show wpQuiet _ _ _ _ (_ :: _) _; go_big_quiet_step (fail))
      refine wpQuiet_nil ?_
      refine tailZ_cons ?_
      go_wp2_with fail
      have HNb := Lib.hid (show Below B wr (wr.alloc (Obj.cells #[.int .i64 (-X)] 3)).drew by (repeat' (first | (with_reducible exact Below.refl _ _) | (with_reducible assumption) | (with_reducible refine Below.drewN ?_ _) | (with_reducible refine Below.alloc ?_ ?_ _) | (with_reducible refine Below.drew ?_) | (with_reducible refine Below.setCell ?_ ?_ _) | (with_reducible refine Below.step (by assumption) ?_ ?_) | (with_reducible exact And.left (by assumption)) | go_size)))
      refine tailL_mk HNb.out ?_
      refine tailZ_cons ?_
      go_wp2_with (at_builtin; refine wpList_append_sl _ rfl _ _ 22 rfl B 3 _ 1 8 Try.underlying22 infoInt rfl (by omega) (.slice av k cv) k _ rfl ((hO.out.alloc _).drew) _ 1 1 [.int .i64 (-X)] rfl (SlR.lit _ _ _ _ _ 1 1 (by rfl) (by simp) rfl (by omega)) (by simp [Value.oneCell']) (by omega) (by omega) (by simp; omega) ?_)
      intro v2 wz hownz _ hbz
      obtain ⟨av2, cv2, rfl, _, _⟩ := owns_slice hownz
      have hbz' : Below B wr wz := HNb.out.trans hbz
      have hzz := hbz'.size
      have HOZ := Lib.hid (show wz.ownsRow B 3 1 (.slice av2 (k + 1) cv2) (k + 1) (icells (ng (f.take (k + 1)))) by rw [HTK.out]; simpa [icells] using hownz)
      have HBZ := Lib.hid hbz'
      have coz : wz.cell? ⟨BO, 0, none⟩ = some (.slice av k cv) := by { rw [cellB hbz' _ _ (by first | (simp; done) | (simp; omega) | omega)]; all_goals (first | assumption | go_simp) }; have co1z : wz.cell? ⟨BO, 1, none⟩ = some (.slice none 0 0) := by { rw [cellB hbz' _ _ (by first | (simp; done) | (simp; omega) | omega)]; all_goals (first | assumption | go_simp) }; have foz : wz.frozen? ⟨BO, 0, none⟩ = false := by { rw [frozenB hbz' _ _ (by first | (simp; done) | (simp; omega) | omega)]; all_goals (first | assumption | go_simp) }; have fo1z : wz.frozen? ⟨BO, 1, none⟩ = false := by { rw [frozenB hbz' _ _ (by first | (simp; done) | (simp; omega) | omega)]; all_goals (first | assumption | go_simp) }
      have loz : BO < wz.heap.size := by omega
      clear hownz hbz hbz' co fo lo co1 fo1
      go_wp2_with fail
      refine tailL_mk HBZ.out ?_
      refine tailZ_cons ?_
      go_wp2_with fail
      refine tailL_mk HBZ.out ?_
      refine tailZ_last ?_
      go_wp2_with fail
      refine tailZ_end ?_
      go_wp2
      go_roundw
      case rel =>
        refine ⟨k + 1, by go_num, by omega, ⟨av2, cv2, by go_simp, Lib.hid (ownsRow_setCell_below HOZ.out (a := ⟨BO, 0, none⟩) jo _)⟩, by go_simp, by go_simp, by go_simp, by simp; omega, ?_⟩
        exact Lib.hid (Below.setCell (hB.out.trans (HBZ.out.mono (by omega))) (by simp) _)
      case measure => simp [intOf]; omega
    · obtain rfl : n1 = k := by omega
      have HO := Lib.hid (show wr.ownsRow B 3 1 (.slice av n1 cv) n1 (icells (ng f)) by have := hO.out; rw [List.take_of_length_le (by rw [HF.out.len]; omega)] at this; exact this)
      have jw : B ≤ wr.heap.size := by omega
      have HB9 := hB
      clear hO hB
      obtain ⟨w9, rfl⟩ : ∃ w9, w9 = wr := ⟨wr, rfl⟩
      obtain ⟨a3, rfl⟩ : ∃ a3, a3 = av := ⟨av, rfl⟩
      obtain ⟨c3, rfl⟩ : ∃ c3, c3 = cv := ⟨cv, rfl⟩
      obtain ⟨B1, rfl⟩ : ∃ B1, B1 = B := ⟨B, rfl⟩
      have jo1 := jo
      obtain ⟨B, hB2⟩ : ∃ B, B = w9.heap.size := ⟨_, rfl⟩
      have HL3 := Lib.hid (fun z (hz : (Value.slice a3 n1 c3).ownBlock = some z) => show z < B by rw [hB2]; exact (HO.out.lt z hz).2)
      have j0' : w.heap.size < B := by omega
      have HB2 := Lib.hid hB2
      have jB2 : BO < B := by omega
      have j1' : w.heap.size + 1 < B := by omega
      have jo : BO < B := by omega
      have hbw := HBw.out.size
      clear hB2
      go_wp2_with fail
      go_loopw [5] (fun i wr => ∃ k : Nat, i = .int .i64 k ∧ k ≤ n2 ∧ (∃ av cv, wr.cell? ⟨BO, 1, none⟩ = some (.slice av k cv) ∧ Hid (wr.ownsRow B 3 1 (.slice av k cv) k (icells (ng (b.take k))))) ∧ wr.cell? ⟨BO, 0, none⟩ = some (.slice a3 n1 c3) ∧ wr.frozen? ⟨BO, 0, none⟩ = false ∧ wr.frozen? ⟨BO, 1, none⟩ = false ∧ BO < wr.heap.size ∧ Hid (Below BO w9 wr) ∧ Hid (wr.ownsRow B1 3 1 (.slice a3 n1 c3) n1 (icells (ng f)))) (fun i _ => n2 - (intOf i).toNat)
      case atStart => exact ⟨0, rfl, Nat.zero_le _, ⟨none, 0, co1, Lib.hid (World.ownsRow_nil _ _ _ _)⟩, co, fo, fo1, lo, Lib.hid (Below.refl _ _), HO⟩
      case round =>
        clear co fo lo co1 fo1 HO
        obtain ⟨k, rfl, hk, ⟨av, cv, co1, hO⟩, co, fo, fo1, lo, hB, HO⟩ := hrel
        have hbr := hB.out
        have q0 : wr.cell? ⟨w.heap.size, 0, none⟩ = some (.slice a1 n1 c1) := by { rw [cellB hbr _ _ (by first | (simp; done) | (simp; omega) | omega)]; all_goals (first | assumption | go_simp) }; have q1 : wr.cell? ⟨w.heap.size, 1, none⟩ = some (.slice a2 n2 c2) := by { rw [cellB hbr _ _ (by first | (simp; done) | (simp; omega) | omega)]; all_goals (first | assumption | go_simp) }; have p0 : wr.cell? ⟨w.heap.size + 1, 0, none⟩ = some (.slice none 0 0) := by { rw [cellB hbr _ _ (by first | (simp; done) | (simp; omega) | omega)]; all_goals (first | assumption | go_simp) }; have p1 : wr.cell? ⟨w.heap.size + 1, 1, none⟩ = some (.slice none 0 0) := by { rw [cellB hbr _ _ (by first | (simp; done) | (simp; omega) | omega)]; all_goals (first | assumption | go_simp) }; have f0 : wr.frozen? ⟨w.heap.size + 1, 0, none⟩ = false := by { rw [frozenB hbr _ _ (by first | (simp; done) | (simp; omega) | omega)]; all_goals (first | assumption | go_simp) }; have f1 : wr.frozen? ⟨w.heap.size + 1, 1, none⟩ = false := by { rw [frozenB hbr _ _ (by first | (simp; done) | (simp; omega) | omega)]; all_goals (first | assumption | go_simp) }
        have HBw := Lib.hid (HBw.out.trans (hbr.mono (by omega)))
        clear hbr q0' q1' p0' p1' f0' f1'
        have hzr : B ≤ wr.heap.size := by rw [HB2.out]; exact hB.out.size
        rcases Nat.lt_or_ge k n2 with hlt | hge
        ·
          obtain ⟨b0, o0, rfl, hb0, hc0⟩ := HB.out.addr (by omega)
          obtain ⟨X, hX⟩ : ∃ X, X = g0 b k := ⟨_, rfl⟩
          have cx : wr.cell? ⟨b0, o0 + k, none⟩ = some (.int .i64 X) := by rw [cellB HBw.out _ _ hb0, hX]; exact hc0 k hlt
          have bx : -1000000 ≤ X ∧ X ≤ 1000000 := by rw [hX]; exact HBB.out _ (getD_mem (by rw [HB.out.len]; exact hlt))
          have i0 : (0 : Int) ≤ (k : Int) := by omega
          have i1 : (k : Int) < (n2 : Int) := by omega
          have jb : b0 < B := by omega
          have HTK := Lib.hid (show ng (b.take (k + 1)) = ng (b.take k) ++ [-X] by rw [hX]; exact ng_take (by rw [HB.out.len]; exact hlt))
          clear hX hc0
          go_wp2_with fail
          refine wp_region_laterZ (B := B) [0, 1, 2, 3, 4, 5, 6, 7] [8, 9, 10, 11] 11 (by kernel_rfl) (by kernel_rfl) ?_; simp only [List.filterMap_cons, List.filterMap_nil, List.getElem?_cons_zero, List.getElem?_cons_succ]; repeat (show wpQuiet _ _ _ _ (_ :: _) _; go_big_quiet_step (fail))
          refine wpQuiet_nil ?_
          refine tailZ_cons ?_
          go_wp2_with fail
          have HNb := Lib.hid (show Below B wr (wr.alloc (Obj.cells #[.int .i64 (-X)] 3)).drew by (repeat' (first | (with_reducible exact Below.refl _ _) | (with_reducible assumption) | (with_reducible refine Below.drewN ?_ _) | (with_reducible refine Below.alloc ?_ ?_ _) | (with_reducible refine Below.drew ?_) | (with_reducible refine Below.setCell ?_ ?_ _) | (with_reducible refine Below.step (by assumption) ?_ ?_) | (with_reducible exact And.left (by assumption)) | go_size)))
          refine tailL_mk HNb.out ?_
          refine tailZ_cons ?_
          go_wp2_with (at_builtin; refine wpList_append_sl _ rfl _ _ 22 rfl B 3 _ 1 8 Try.underlying22 infoInt rfl (by omega) (.slice av k cv) k _ rfl ((hO.out.alloc _).drew) _ 1 1 [.int .i64 (-X)] rfl (SlR.lit _ _ _ _ _ 1 1 (by rfl) (by simp) rfl (by omega)) (by simp [Value.oneCell']) (by omega) (by omega) (by simp; omega) ?_)
          intro v2 wz hownz _ hbz
          obtain ⟨av2, cv2, rfl, _, _⟩ := owns_slice hownz
          have hbz' : Below B wr wz := HNb.out.trans hbz
          have hzz := hbz'.size
          have HOZ := Lib.hid (show wz.ownsRow B 3 1 (.slice av2 (k + 1) cv2) (k + 1) (icells (ng (b.take (k + 1)))) by rw [HTK.out]; simpa [icells] using hownz)
          have HBZ := Lib.hid hbz'
          have coz : wz.cell? ⟨BO, 0, none⟩ = some (.slice a3 n1 c3) := by { rw [cellB hbz' _ _ (by first | (simp; done) | (simp; omega) | omega)]; all_goals (first | assumption | go_simp) }; have co1z : wz.cell? ⟨BO, 1, none⟩ = some (.slice av k cv) := by { rw [cellB hbz' _ _ (by first | (simp; done) | (simp; omega) | omega)]; all_goals (first | assumption | go_simp) }; have foz : wz.frozen? ⟨BO, 0, none⟩ = false := by { rw [frozenB hbz' _ _ (by first | (simp; done) | (simp; omega) | omega)]; all_goals (first | assumption | go_simp) }; have fo1z : wz.frozen? ⟨BO, 1, none⟩ = false := by { rw [frozenB hbz' _ _ (by first | (simp; done) | (simp; omega) | omega)]; all_goals (first | assumption | go_simp) }
          have loz : BO < wz.heap.size := by omega
          clear hownz hbz hbz' co fo lo co1 fo1
          go_wp2_with fail
          refine tailL_mk HBZ.out ?_
          refine tailZ_cons ?_
          go_wp2_with fail
          refine tailL_mk HBZ.out ?_
          refine tailZ_last ?_
          go_wp2_with fail
          refine tailZ_end ?_
          go_wp2
          go_roundw
          case rel =>
            refine ⟨k + 1, by go_num, by omega, ⟨av2, cv2, by go_simp, Lib.hid (ownsRow_setCell_below HOZ.out (a := ⟨BO, 1, none⟩) jo _)⟩, by go_simp, by go_simp, by go_simp, by simp; omega, ?_, ?_⟩
            · exact Lib.hid (Below.setCell (hB.out.trans (HBZ.out.mono (by omega))) (by simp) _)
            · exact Lib.hid (ownsRow_setCell_below (owns_below HO.out HBZ.out (fun z hz => HL3.out z hz)) (a := ⟨BO, 1, none⟩) jo1 _)
          case measure => simp [intOf]; omega
        · obtain rfl : n2 = k := by omega
          have hO2 := show wr.ownsRow B 3 1 (.slice av n2 cv) n2 (icells (ng b)) by have := hO.out; rw [List.take_of_length_le (by rw [HB.out.len]; omega)] at this; exact this
          have HO2 := Lib.hid hO2
          clear hO hO2
          go_wp2
          refine bodyPost_ret (v := .agg #[.slice a3 n1 c3, .slice av n2 cv]) (by simp [results, Try.results21, go_sem, p0, p1]) rfl ⟨a3, c3, av, cv, rfl, ?_, ?_, ?_⟩
          · have := HBw.out
            (repeat' (first | (with_reducible exact Below.refl _ _) | (with_reducible assumption) | (with_reducible refine Below.drewN ?_ _) | (with_reducible refine Below.alloc ?_ ?_ _) | (with_reducible refine Below.drew ?_) | (with_reducible refine Below.setCell ?_ ?_ _) | (with_reducible refine Below.step (by assumption) ?_ ?_) | (with_reducible exact And.left (by assumption)) | go_size))
          · exact SlR.of_owns (ownsRow_setCell_below (ownsRow_setCell_below HO.out (a := ⟨w.heap.size + 1, 0, none⟩) (by simp; omega) _) (a := ⟨w.heap.size + 1, 1, none⟩) (by simp; omega) _)
          · exact SlR.of_owns (ownsRow_setCell_below (ownsRow_setCell_below HO2.out (a := ⟨w.heap.size + 1, 0, none⟩) (by simp; omega) _) (a := ⟨w.heap.size + 1, 1, none⟩) (by simp; omega) _)
end Go.Proofs.Ytiellefbndlkkaa
