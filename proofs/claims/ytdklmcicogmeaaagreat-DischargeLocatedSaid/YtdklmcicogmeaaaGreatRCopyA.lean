import Derived.Test.YtdklmcicogmeaaaGreatMDRErr
import Derived.Test.YtdklmcicogmeaaaGreatRArrv
/- Copies of arrivals; all sensors. -/
namespace Go.Proofs.YtdklmcicogmeaaaGreat
open Go.RowKit
set_option linter.unusedVariables false

theorem infoSen : (Tryz.prog.info? 40).map (fun i => (i.zero, i.size, i.bytes)) = some (some (.agg #[.int .i64 0, .int .i64 0, .int .i64 0, .int .i64 0, .int .i64 0]), 5, 40) := by kernel_rfl
set_option maxHeartbeats 1000000 in
set_option maxRecDepth 100000 in
theorem copyArrivalsO_any (lo hi : Int) (l : List Sen) (a : Option Addr) (n c : Nat) (w : World) (hl : SenR w a n l) (hn : n ≤ 100000) :
    Calls Tryz.prog 18 #[.agg #[.int .i64 lo, .int .i64 hi, .slice a n c]] w fun e' w' => ∃ a' c', e' = .returned (.agg #[.int .i64 lo, .int .i64 hi, .slice a' n c']) ∧ Below w.heap.size w w' ∧ ∃ base, w.heap.size ≤ base ∧ w'.ownsRow base 40 5 (.slice a' n c') n (ecells e5 l) := by
  have HL := Lib.hid hl
  have HLN := Lib.hid hl.len
  clear hl
  go_enter Tryz.func18, Tryz.ntmps18
  go_wp2_with fail
  generalize hW : World.alloc _ _ = w5
  have hb5 : Below w.heap.size w w5 := by rw [← hW]; (repeat' (first | (with_reducible exact Below.refl _ _) | (with_reducible assumption) | (with_reducible refine Below.drewN ?_ _) | (with_reducible refine Below.alloc ?_ ?_ _) | (with_reducible refine Below.drew ?_) | (with_reducible refine Below.setCell ?_ ?_ _) | (with_reducible refine Below.step (by assumption) ?_ ?_) | (with_reducible exact And.left (by assumption)) | go_size))
  have q0 : w5.cell? ⟨w.heap.size, 0, none⟩ = some (.int .i64 lo) := by { rw [← hW]; clear hW; go_simp }
  have q1 : w5.cell? ⟨w.heap.size, 1, none⟩ = some (.int .i64 hi) := by { rw [← hW]; clear hW; go_simp }
  have q2 : w5.cell? ⟨w.heap.size, 2, none⟩ = some (.slice a n c) := by { rw [← hW]; clear hW; go_simp }
  have z0 : w5.cell? ⟨w.heap.size + 1, 0, none⟩ = some (.int .i64 0) := by { rw [← hW]; clear hW; go_simp }
  have z1 : w5.cell? ⟨w.heap.size + 1, 1, none⟩ = some (.int .i64 0) := by { rw [← hW]; clear hW; go_simp }
  have z2 : w5.cell? ⟨w.heap.size + 1, 2, none⟩ = some (.slice none 0 0) := by { rw [← hW]; clear hW; go_simp }
  have f0 : w5.frozen? ⟨w.heap.size + 1, 0, none⟩ = false := by { rw [← hW]; clear hW; go_simp }
  have f1 : w5.frozen? ⟨w.heap.size + 1, 1, none⟩ = false := by { rw [← hW]; clear hW; go_simp }
  have f2 : w5.frozen? ⟨w.heap.size + 1, 2, none⟩ = false := by { rw [← hW]; clear hW; go_simp }
  have z5 : w5.heap.size = w.heap.size + 1 + 1 := by { rw [← hW]; clear hW; simp }
  have ok0 : OkB w.heap.size w5.heap.size (w.heap.size + 1) := ⟨by omega, by omega⟩
  have HB5 := Lib.hid hb5
  have l1 : w.heap.size + 1 < w5.heap.size := by omega
  have HZ := Lib.hid z5
  clear hW hb5 z5
  refine wp_region_laterC (B := w5.heap.size) (b0 :=  w.heap.size + 1) [(true, 0), (true, 1), (true, 3), (true, 4), (false, 2), (false, 5), (true, 6), (false, 7)] (by kernel_rfl) (by kernel_rfl) ?_; simp only [opsOf, List.filterMap_cons, List.filterMap_nil, List.getElem?_toArray, List.getElem?_cons_zero, List.getElem?_cons_succ, Option.map_some]
  repeat (refine mixc_head ?_; (show wpQuiet _ _ _ _ (_ :: _) _; go_big_quiet_step (fail)); refine wpQuiet_nil ?_)
  refine mixc_tail ?_; go_wp2_with fail
  have hba : Below w5.heap.size w5 (w5.alloc (Obj.cells #[] 40)).drew := by (repeat' (first | (with_reducible exact Below.refl _ _) | (with_reducible assumption) | (with_reducible refine Below.drewN ?_ _) | (with_reducible refine Below.alloc ?_ ?_ _) | (with_reducible refine Below.drew ?_) | (with_reducible refine Below.setCell ?_ ?_ _) | (with_reducible refine Below.step (by assumption) ?_ ?_) | (with_reducible exact And.left (by assumption)) | go_size))
  have hoa := (World.ownsRow_made (base := w5.heap.size) (e := 40) (size := 5) w5 #[] 0 (by simp) (by simp [maxLen]) rfl).drew
  generalize (w5.alloc (Obj.cells #[] 40)).drew = wa at *
  have HA := Lib.hid hba
  have HO := Lib.hid hoa
  have HLa := Lib.hid (HL.out.below (HB5.out.trans (hba.mono HB5.out.size)))
  clear hba hoa
  refine tailC_stay (SameX.of_below HA.out) ?_
  repeat (refine mixc_head ?_; (show wpQuiet _ _ _ _ (_ :: _) _; go_big_quiet_step (fail)); refine wpQuiet_nil ?_)
  refine mixc_tail ?_
  go_wp2_with (at_builtin; refine wpList_append_sl _ rfl _ _ 36 rfl w5.heap.size 40 _ 5 40 Tryz.underlying36 infoSen rfl (by omega) _ 0 _ rfl HO.out _ n c (ecells e5 l) rfl HLa.out.2 (ecells_ones e5_one l) (by omega) (by omega) (by have := HA.out.size; omega) ?_)
  intro v2 w2 hown2 hgr2 hb2
  obtain ⟨a2, c2, rfl, _, _⟩ := owns_slice hown2
  have HX := Lib.hid (HA.out.trans hb2)
  have HO2 := Lib.hid hown2
  have hbx := HX.out
  have hzx := hbx.size
  have z0d : w2.cell? ⟨w.heap.size + 1, 0, none⟩ = some (.int .i64 0) := by { rw [cellB hbx _ _ (by first | (simp; done) | (simp; omega) | omega)]; all_goals (first | assumption | go_simp) }; have z1d : w2.cell? ⟨w.heap.size + 1, 1, none⟩ = some (.int .i64 0) := by { rw [cellB hbx _ _ (by first | (simp; done) | (simp; omega) | omega)]; all_goals (first | assumption | go_simp) }; have z2d : w2.cell? ⟨w.heap.size + 1, 2, none⟩ = some (.slice none 0 0) := by { rw [cellB hbx _ _ (by first | (simp; done) | (simp; omega) | omega)]; all_goals (first | assumption | go_simp) }; have f0d : w2.frozen? ⟨w.heap.size + 1, 0, none⟩ = false := by { rw [frozenB hbx _ _ (by first | (simp; done) | (simp; omega) | omega)]; all_goals (first | assumption | go_simp) }; have f1d : w2.frozen? ⟨w.heap.size + 1, 1, none⟩ = false := by { rw [frozenB hbx _ _ (by first | (simp; done) | (simp; omega) | omega)]; all_goals (first | assumption | go_simp) }; have f2d : w2.frozen? ⟨w.heap.size + 1, 2, none⟩ = false := by { rw [frozenB hbx _ _ (by first | (simp; done) | (simp; omega) | omega)]; all_goals (first | assumption | go_simp) }; have l1d : w.heap.size + 1 < w2.heap.size := by { omega }
  clear hown2 hgr2 hb2 hbx hzx HA HO HLa z0 z1 z2 f0 f1 f2 HL
  go_wp2_with fail
  refine tailC_stay (SameX.of_below HX.out) ?_
  repeat (refine mixc_head ?_; (show wpQuiet _ _ _ _ (_ :: _) _; go_big_quiet_step (fail)); refine wpQuiet_nil ?_)
  refine mixc_tail ?_; go_wp2_with fail
  refine tailC_stay (.set (.set (.set (SameX.of_below HX.out) _) _) _) ?_
  refine mixc_nil ?_
  go_wp2_with fail
  generalize hW : World.setCell _ _ _ = w12
  have r0 : w12.cell? ⟨w.heap.size + 1, 0, none⟩ = some (.int .i64 lo) := by { rw [← hW]; clear hW; go_simp }
  have r1 : w12.cell? ⟨w.heap.size + 1, 1, none⟩ = some (.int .i64 hi) := by { rw [← hW]; clear hW; go_simp }
  have r2 : w12.cell? ⟨w.heap.size + 1, 2, none⟩ = some (.slice a2 n c2) := by { rw [← hW]; clear hW; go_simp }
  have hb12 : Below w.heap.size w w12 := by { rw [← hW]; have := HB5.out.trans (HX.out.mono HB5.out.size); (repeat' (first | (with_reducible exact Below.refl _ _) | (with_reducible assumption) | (with_reducible refine Below.drewN ?_ _) | (with_reducible refine Below.alloc ?_ ?_ _) | (with_reducible refine Below.drew ?_) | (with_reducible refine Below.setCell ?_ ?_ _) | (with_reducible refine Below.step (by assumption) ?_ ?_) | (with_reducible exact And.left (by assumption)) | go_size)) }
  have ho12 : w12.ownsRow w5.heap.size 40 5 (.slice a2 n c2) n (ecells e5 l) := by { rw [← hW]; have := HO2.out; (repeat' (first | (with_reducible assumption) | ((with_reducible refine owns_lit ?_ ?_ ?_ ?_) <;> first | (simp; done) | (simp; omega) | omega) | (with_reducible refine World.ownsRow.alloc ?_ _) | (with_reducible refine World.ownsRow.drew ?_) | (with_reducible refine owns_drewN ?_ _) | (with_reducible refine ownsRow_setCell_below ?_ ?_ _) | (simp; done) | (simp; omega) | omega)) }
  clear hW
  exact bodyPost_ret (v := .agg #[.int .i64 lo, .int .i64 hi, .slice a2 n c2]) (by simp [results, Tryz.results18, go_sem, r0, r1, r2]) rfl ⟨a2, c2, rfl, hb12, _, HB5.out.size, ho12⟩
theorem copyArrivals_any (lo hi : Int) (l : List Sen) (a : Option Addr) (n c : Nat) (w : World) (hl : SenR w a n l) (hn : n ≤ 100000) :
    Calls Tryz.prog 18 #[.agg #[.int .i64 lo, .int .i64 hi, .slice a n c]] w fun e' w' => ∃ a' c', e' = .returned (.agg #[.int .i64 lo, .int .i64 hi, .slice a' n c']) ∧ Below w.heap.size w w' ∧ SenR w' a' n l :=
  (copyArrivalsO_any lo hi l a n c w hl hn).mono fun e' w' ⟨a', c', he, hb, base, _, ho⟩ => ⟨a', c', he, hb, ER.of_owns hl.len ho⟩
theorem nats_range_succ (k : Nat) : icells (nats (List.range (k + 1))) = icells (nats (List.range k)) ++ [.int .i64 (k : Int)] := by
  unfold nats
  rw [List.range_succ, List.map_append, icells_append]
  rfl
end Go.Proofs.YtdklmcicogmeaaaGreat
