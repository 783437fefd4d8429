import Derived.Test.YtphgacledebolaaExtreme
import Derived.Test.YtphgacledebolaaGapSpan
import Derived.Test.YtphgacledebolaaGapSpan2
/- The ladder of extreme capacitances, where the second condition is a function without variables of its own. -/
namespace Go.Proofs.Ytphgacledebolaa
open Go.RowKit
set_option linter.unusedVariables false

set_option maxHeartbeats 4000000 in
set_option maxRecDepth 100000 in
theorem extremeN_any (s e : List (Int × Int)) (p1 p2 : Nat → Bool) (f1 f2 : FuncId) (a a1 : Option Addr) (n c n1 c1 G : Nat) (g high : Bool) (w : World) (hs : PairsR w a n s) (he : PairsR w a1 n1 e) (h1 : n1 = n) (h6 : n ≤ 1000)
    (hf1 : ∀ args w, (callFunc f1 args).run Try.prog w = .ok (.enter f1 args) w) (hf2 : ∀ args w, (callFunc f2 args).run Try.prog w = .ok (.enter f2 args) w)
    (hp1 : ∀ (k : Nat) (w' : World), Below w.heap.size w w' → Calls Try.prog f1 #[.int .i64 k, .pointer (some ⟨G, 0, none⟩)] w' fun e w'' => e = .returned (.bool (p1 k)) ∧ w' = w'')
    (hp2 : ∀ (k : Nat) (w' : World), Below w.heap.size w w' → Calls Try.prog f2 #[.int .i64 k] w' fun e w'' => e = .returned (.bool (p2 k)) ∧ w' = w'') :
    Calls Try.prog 76 #[.agg #[.slice a n c, .slice a1 n1 c1, .bool g], .bool high, .func (.func f1) #[] #[.pointer (some ⟨G, 0, none⟩)], .func (.func f2) #[] #[]] w fun e' w' =>
      ∃ av cv av1 cv1, e' = .returned (.agg #[.slice av n cv, .slice av1 n cv1, .bool g]) ∧ Below w.heap.size w w' ∧ IntsR w' av n (extAt s p1 high n) ∧ IntsR w' av1 n (extAt e p2 high n) := by
  subst n1
  have HS := Lib.hid hs
  have HE := Lib.hid he
  have HP1 := Lib.hid hp1
  have HP2 := Lib.hid hp2
  have hn := hs.small
  clear hs he hp1 hp2
  go_enter Try.func76, Try.ntmps76
  go_wp2
  generalize hW : World.alloc _ _ = w5
  have hb5 : Below w.heap.size w w5 := by rw [← hW]; (repeat' (first | (with_reducible exact Below.refl _ _) | (with_reducible assumption) | (with_reducible refine Below.drewN ?_ _) | (with_reducible refine Below.alloc ?_ ?_ _) | (with_reducible refine Below.drew ?_) | (with_reducible refine Below.setCell ?_ ?_ _) | (with_reducible refine Below.step (by assumption) ?_ ?_) | (with_reducible exact And.left (by assumption)) | go_size))
  have r0 : w5.cell? ⟨w.heap.size, 0, none⟩ = some (.slice a n c) := by { rw [← hW]; clear hW; go_simp }
  have r1 : w5.cell? ⟨w.heap.size, 1, none⟩ = some (.slice a1 n c1) := by { rw [← hW]; clear hW; go_simp }
  have r2 : w5.cell? ⟨w.heap.size + 1, 0, none⟩ = some (.bool high) := by { rw [← hW]; clear hW; go_simp }
  have t0 : w5.cell? ⟨w.heap.size + 1 + 1, 0, none⟩ = some (.slice none 0 0) := by { rw [← hW]; clear hW; go_simp }
  have t1 : w5.cell? ⟨w.heap.size + 1 + 1, 1, none⟩ = some (.slice none 0 0) := by { rw [← hW]; clear hW; go_simp }
  have t2 : w5.cell? ⟨w.heap.size + 1 + 1, 2, none⟩ = some (.bool false) := by { rw [← hW]; clear hW; go_simp }
  have k0 : w5.frozen? ⟨w.heap.size + 1 + 1, 0, none⟩ = false := by { rw [← hW]; clear hW; go_simp }
  have k1 : w5.frozen? ⟨w.heap.size + 1 + 1, 1, none⟩ = false := by { rw [← hW]; clear hW; go_simp }
  have k2 : w5.frozen? ⟨w.heap.size + 1 + 1, 2, none⟩ = false := by { rw [← hW]; clear hW; go_simp }
  have c0 : w5.cell? ⟨w.heap.size + 1 + 1 + 1, 0, none⟩ = some (.slice none 0 0) := by { rw [← hW]; clear hW; go_simp }
  have c1' : w5.cell? ⟨w.heap.size + 1 + 1 + 1, 1, none⟩ = some (.slice none 0 0) := by { rw [← hW]; clear hW; go_simp }
  have c2 : w5.cell? ⟨w.heap.size + 1 + 1 + 1, 2, none⟩ = some (.bool g) := by { rw [← hW]; clear hW; go_simp }
  have g0' : w5.frozen? ⟨w.heap.size + 1 + 1 + 1, 0, none⟩ = false := by { rw [← hW]; clear hW; go_simp }
  have g1' : w5.frozen? ⟨w.heap.size + 1 + 1 + 1, 1, none⟩ = false := by { rw [← hW]; clear hW; go_simp }
  have l5 : w.heap.size + 1 + 1 + 1 < w5.heap.size := by rw [← hW]; simp
  have HB5 := Lib.hid hb5
  clear hW hb5
  go_loopw [19] (fun i wr => ∃ k : Nat, i = .int .i64 k ∧ k ≤ n ∧ (∃ av cv av1 cv1, wr.cell? ⟨w.heap.size + 1 + 1 + 1, 0, none⟩ = some (.slice av k cv) ∧ wr.cell? ⟨w.heap.size + 1 + 1 + 1, 1, none⟩ = some (.slice av1 k cv1) ∧ Hid (wr.ownsRow (w.heap.size + 1 + 1 + 1 + 1) 3 1 (.slice av k cv) k (icells (extAt s p1 high k))) ∧ Hid (wr.ownsRow (w.heap.size + 1 + 1 + 1 + 1) 3 1 (.slice av1 k cv1) k (icells (extAt e p2 high k))) ∧ Hid ((Value.slice av k cv).ownBlock = none ∨ (Value.slice av k cv).ownBlock ≠ (Value.slice av1 k cv1).ownBlock)) ∧
      wr.cell? ⟨w.heap.size + 1 + 1 + 1, 2, none⟩ = some (.bool g) ∧ wr.frozen? ⟨w.heap.size + 1 + 1 + 1, 0, none⟩ = false ∧ wr.frozen? ⟨w.heap.size + 1 + 1 + 1, 1, none⟩ = false ∧ w.heap.size + 1 + 1 + 1 < wr.heap.size ∧ Hid (Below (w.heap.size + 1 + 1 + 1) w5 wr)) (fun i _ => n - (intOf i).toNat)
  case atStart =>
    exact ⟨0, rfl, Nat.zero_le _, ⟨none, 0, none, 0, c0, c1', Lib.hid (World.ownsRow_nil _ _ _ _), Lib.hid (World.ownsRow_nil _ _ _ _), Lib.hid (.inl rfl)⟩, c2, g0', g1', l5, Lib.hid (Below.refl _ _)⟩
  case round =>
    clear c0 c1' c2 g0' g1' l5
    obtain ⟨k, rfl, hk, ⟨av, cv, av1, cv1, c0, c1', hO, hO1, hA⟩, c2, g0', g1', lr, hB⟩ := hrel
    have hbr := hB.out
    have hbw := HB5.out.trans (hbr.mono (by omega))
    have r0' : wr.cell? ⟨w.heap.size, 0, none⟩ = some (.slice a n c) := by { rw [cellB hbr _ _ (by first | (simp; done) | (simp; omega) | omega)]; all_goals (first | assumption | go_simp) }; have r1' : wr.cell? ⟨w.heap.size, 1, none⟩ = some (.slice a1 n c1) := by { rw [cellB hbr _ _ (by first | (simp; done) | (simp; omega) | omega)]; all_goals (first | assumption | go_simp) }; have r2' : wr.cell? ⟨w.heap.size + 1, 0, none⟩ = some (.bool high) := by { rw [cellB hbr _ _ (by first | (simp; done) | (simp; omega) | omega)]; all_goals (first | assumption | go_simp) }; have t0' : wr.cell? ⟨w.heap.size + 1 + 1, 0, none⟩ = some (.slice none 0 0) := by { rw [cellB hbr _ _ (by first | (simp; done) | (simp; omega) | omega)]; all_goals (first | assumption | go_simp) }; have t1' : wr.cell? ⟨w.heap.size + 1 + 1, 1, none⟩ = some (.slice none 0 0) := by { rw [cellB hbr _ _ (by first | (simp; done) | (simp; omega) | omega)]; all_goals (first | assumption | go_simp) }; have t2' : wr.cell? ⟨w.heap.size + 1 + 1, 2, none⟩ = some (.bool false) := by { rw [cellB hbr _ _ (by first | (simp; done) | (simp; omega) | omega)]; all_goals (first | assumption | go_simp) }; have k0' : wr.frozen? ⟨w.heap.size + 1 + 1, 0, none⟩ = false := by { rw [frozenB hbr _ _ (by first | (simp; done) | (simp; omega) | omega)]; all_goals (first | assumption | go_simp) }; have k1' : wr.frozen? ⟨w.heap.size + 1 + 1, 1, none⟩ = false := by { rw [frozenB hbr _ _ (by first | (simp; done) | (simp; omega) | omega)]; all_goals (first | assumption | go_simp) }; have k2' : wr.frozen? ⟨w.heap.size + 1 + 1, 2, none⟩ = false := by { rw [frozenB hbr _ _ (by first | (simp; done) | (simp; omega) | omega)]; all_goals (first | assumption | go_simp) }
    have HBW := Lib.hid hbw
    clear hbr
    have lh0 : w.heap.size < w.heap.size + 1 + 1 + 1 + 1 := by omega
    have lh1 : w.heap.size + 1 < w.heap.size + 1 + 1 + 1 + 1 := by omega
    have lh2 : w.heap.size + 1 + 1 < w.heap.size + 1 + 1 + 1 + 1 := by omega
    have lh3 : w.heap.size + 1 + 1 + 1 < w.heap.size + 1 + 1 + 1 + 1 := by omega
    rcases Nat.lt_or_ge k n with hlt | hge
    · obtain ⟨b0, o0, rfl, hb0, hc0⟩ := HS.out.addr (by omega)
      obtain ⟨b1, o1, rfl, hb1, hc1⟩ := HE.out.addr (by omega)
      obtain ⟨x, hx⟩ : ∃ x, x = (s.getD k (0, 0)).1 := ⟨_, rfl⟩
      obtain ⟨y, hy⟩ : ∃ y, y = (s.getD k (0, 0)).2 := ⟨_, rfl⟩
      obtain ⟨p, hp⟩ : ∃ p, p = (e.getD k (0, 0)).1 := ⟨_, rfl⟩
      obtain ⟨q, hq⟩ : ∃ q, q = (e.getD k (0, 0)).2 := ⟨_, rfl⟩
      have cx : wr.cell? ⟨b0, o0 + k * 2, none⟩ = some (.int .i64 x) := by rw [cellB hbw _ _ hb0, hx]; exact (hc0 k hlt).1
      have cy : wr.cell? ⟨b0, o0 + k * 2 + 1, none⟩ = some (.int .i64 y) := by rw [cellB hbw _ _ hb0, hy]; exact (hc0 k hlt).2
      have cp : wr.cell? ⟨b1, o1 + k * 2, none⟩ = some (.int .i64 p) := by rw [cellB hbw _ _ hb1, hp]; exact (hc1 k hlt).1
      have cq : wr.cell? ⟨b1, o1 + k * 2 + 1, none⟩ = some (.int .i64 q) := by rw [cellB hbw _ _ hb1, hq]; exact (hc1 k hlt).2
      have lb0 : b0 < w.heap.size + 1 + 1 + 1 + 1 := by omega
      have lb1 : b1 < w.heap.size + 1 + 1 + 1 + 1 := by omega
      have HX := Lib.hid (show s.getD k (0, 0) = (x, y) by rw [hx, hy])
      have HX1 := Lib.hid (show e.getD k (0, 0) = (p, q) by rw [hp, hq])
      have i2 : (0 : Int) ≤ (k : Int) := by omega
      have i3 : (k : Int) < (n : Int) := by omega
      clear hbw hx hy hp hq hc0 hc1
      go_wp2_with fail
      refine wp_region_laterZ (B := w.heap.size + 1 + 1 + 1 + 1) [0, 1, 2, 3, 4, 5, 6, 7, 8, 9] [10, 11, 12, 13, 14, 15] 15 (by kernel_rfl) (by kernel_rfl) ?_; simp only [List.filterMap_cons, List.filterMap_nil, List.getElem?_cons_zero, List.getElem?_cons_succ]; repeat (show wpQuiet _ _ _ _ (_ :: _) _; go_big_quiet_step (fail))
      refine wpQuiet_nil ?_
      refine tailZ_cons ?_
      go_wp2_with fail
      refine (HP1.out k _ HBW.out.drew).mono ?_
      rintro e6 w6 ⟨rfl, rfl⟩
      go_wp2_with fail
      refine tailL_mk (by (repeat' (first | (with_reducible exact Below.refl _ _) | (with_reducible assumption) | (with_reducible refine Below.drewN ?_ _) | (with_reducible refine Below.alloc ?_ ?_ _) | (with_reducible refine Below.drew ?_) | (with_reducible refine Below.setCell ?_ ?_ _) | (with_reducible refine Below.step (by assumption) ?_ ?_) | (with_reducible exact And.left (by assumption)) | go_size))) ?_
      refine tailZ_cons ?_
      go_wp2_with fail
      refine (extreme1_any x y (p1 k) high (w.heap.size + 1) _ (by simp; omega) (by go_simp)).mono ?_
      rintro e7 w7 ⟨rfl, hb7⟩
      have hb7' : Below wr.heap.size wr w7 := (Below.refl wr.heap.size wr).drew.trans hb7
      have hz7 := hb7'.size
      have HO7 := Lib.hid (owns_below hO.out hb7' (fun q hq => (hO.out.lt q hq).2))
      have HO71 := Lib.hid (owns_below hO1.out hb7' (fun q hq => (hO1.out.lt q hq).2))
      have HB7 := Lib.hid (hb7'.mono (show w.heap.size + 1 + 1 + 1 + 1 ≤ wr.heap.size by omega))
      clear hb7 hb7'
      go_wp2_with fail
      refine tailL_mk HB7.out ?_
      refine tailZ_cons ?_
      go_wp2_with fail
      have HB7a := Lib.hid (show Below (w.heap.size + 1 + 1 + 1 + 1) wr (w7.alloc (Obj.cells #[Value.int IntKind.i64 (endOf (x, y) (p1 k) high)] 3)) from Below.alloc HB7.out (by omega) _)
      refine tailL_mk HB7a.out ?_
      refine tailZ_cons ?_
      go_wp2_with (at_builtin; refine wpList_append_one _ rfl _ _ rfl (w.heap.size + 1 + 1 + 1 + 1) k w7.heap.size (.slice av k cv) _ (.int .i64 (endOf (x, y) (p1 k) high)) rfl (HO7.out.alloc _) rfl (by go_simp) rfl (by omega) (by simp; omega) ?_)
      intro v8 w8 hown8 hgr8 hat8 hb8
      obtain ⟨av2, cv2, rfl, _, _⟩ := owns_slice hown8
      have hb8' : Below (w.heap.size + 1 + 1 + 1 + 1) wr w8 := HB7a.out.trans hb8
      have hz8 := hb8'.size
      have ho81 := World.ownsRow.kept (HO71.out.alloc _) hgr8 (by
        rcases hA.out with h | h
        · rw [h]; rcases hq : (Value.slice av1 k cv1).ownBlock with _ | z
          · exact .inl rfl
          · exact .inr (by simp)
        · exact .inr (Ne.symm h))
      have hA8 : (Value.slice av2 (k + 1) cv2).ownBlock = none ∨ (Value.slice av2 (k + 1) cv2).ownBlock ≠ (Value.slice av1 k cv1).ownBlock := by
        rcases hat8 with h | h
        · rw [h]; exact hA.out
        · refine .inr (fun h2 => ?_)
          rw [h] at h2
          have := (hO1.out.lt _ h2.symm).2
          first | omega | (simp at this; omega)
      have ho8 : w8.ownsRow (w.heap.size + 1 + 1 + 1 + 1) 3 1 (.slice av2 (k + 1) cv2) (k + 1) (icells (extAt s p1 high (k + 1))) := by
        rw [ext_snoc, HX.out, icells_append]; exact hown8
      have HO8 := Lib.hid ho8
      have HO81 := Lib.hid ho81
      have HA8 := Lib.hid hA8
      have HB8 := Lib.hid hb8'
      have d0 : w8.cell? ⟨w.heap.size + 1 + 1 + 1, 0, none⟩ = some (.slice av k cv) := by { rw [cellB hb8' _ _ (by first | (simp; done) | (simp; omega) | omega)]; all_goals (first | assumption | go_simp) }; have d1 : w8.cell? ⟨w.heap.size + 1 + 1 + 1, 1, none⟩ = some (.slice av1 k cv1) := by { rw [cellB hb8' _ _ (by first | (simp; done) | (simp; omega) | omega)]; all_goals (first | assumption | go_simp) }; have d2 : w8.cell? ⟨w.heap.size + 1 + 1 + 1, 2, none⟩ = some (.bool g) := by { rw [cellB hb8' _ _ (by first | (simp; done) | (simp; omega) | omega)]; all_goals (first | assumption | go_simp) }; have e0 : w8.frozen? ⟨w.heap.size + 1 + 1 + 1, 0, none⟩ = false := by { rw [frozenB hb8' _ _ (by first | (simp; done) | (simp; omega) | omega)]; all_goals (first | assumption | go_simp) }; have e1 : w8.frozen? ⟨w.heap.size + 1 + 1 + 1, 1, none⟩ = false := by { rw [frozenB hb8' _ _ (by first | (simp; done) | (simp; omega) | omega)]; all_goals (first | assumption | go_simp) }
      clear hown8 hgr8 hat8 hb8 ho81 hA8 ho8 hb8'
      go_wp2_with fail
      refine tailL_mk HB8.out ?_
      refine tailZ_cons ?_
      go_wp2_with fail
      refine tailL_mk HB8.out ?_
      refine tailZ_last ?_
      go_wp2_with fail
      refine tailZ_end ?_
      have HO9wa := Lib.hid (ownsRow_setCell_below HO8.out (a := ⟨w.heap.size + 1 + 1 + 1, 0, none⟩) (by simp) (.slice av2 (k + 1) cv2))
      have HO91wa := Lib.hid (ownsRow_setCell_below HO81.out (a := ⟨w.heap.size + 1 + 1 + 1, 0, none⟩) (by simp) (.slice av2 (k + 1) cv2))
      have hb9 : Below (w.heap.size + 1 + 1 + 1) wr (w8.setCell ⟨w.heap.size + 1 + 1 + 1, 0, none⟩ (.slice av2 (k + 1) cv2)) := Below.setCell (HB8.out.mono (by omega)) (by simp) _
      have hz9 : w8.heap.size = (w8.setCell ⟨w.heap.size + 1 + 1 + 1, 0, none⟩ (.slice av2 (k + 1) cv2)).heap.size := by simp
      have x0 : (w8.setCell ⟨w.heap.size + 1 + 1 + 1, 0, none⟩ (.slice av2 (k + 1) cv2)).cell? ⟨w.heap.size + 1 + 1 + 1, 0, none⟩ = some (.slice av2 (k + 1) cv2) := by go_simp
      have x1 : (w8.setCell ⟨w.heap.size + 1 + 1 + 1, 0, none⟩ (.slice av2 (k + 1) cv2)).cell? ⟨w.heap.size + 1 + 1 + 1, 1, none⟩ = some (.slice av1 k cv1) := by go_simp
      have x2 : (w8.setCell ⟨w.heap.size + 1 + 1 + 1, 0, none⟩ (.slice av2 (k + 1) cv2)).cell? ⟨w.heap.size + 1 + 1 + 1, 2, none⟩ = some (.bool g) := by go_simp
      have y0 : (w8.setCell ⟨w.heap.size + 1 + 1 + 1, 0, none⟩ (.slice av2 (k + 1) cv2)).frozen? ⟨w.heap.size + 1 + 1 + 1, 0, none⟩ = false := by go_simp
      have y1 : (w8.setCell ⟨w.heap.size + 1 + 1 + 1, 0, none⟩ (.slice av2 (k + 1) cv2)).frozen? ⟨w.heap.size + 1 + 1 + 1, 1, none⟩ = false := by go_simp
      generalize w8.setCell ⟨w.heap.size + 1 + 1 + 1, 0, none⟩ (.slice av2 (k + 1) cv2) = wa at *
      have r0a : wa.cell? ⟨w.heap.size, 0, none⟩ = some (.slice (some ⟨b0, o0, none⟩) n c) := by { rw [cellB hb9 _ _ (by first | (simp; done) | (simp; omega) | omega)]; all_goals (first | assumption | go_simp) }; have r1a : wa.cell? ⟨w.heap.size, 1, none⟩ = some (.slice (some ⟨b1, o1, none⟩) n c1) := by { rw [cellB hb9 _ _ (by first | (simp; done) | (simp; omega) | omega)]; all_goals (first | assumption | go_simp) }; have r2a : wa.cell? ⟨w.heap.size + 1, 0, none⟩ = some (.bool high) := by { rw [cellB hb9 _ _ (by first | (simp; done) | (simp; omega) | omega)]; all_goals (first | assumption | go_simp) }; have t0a : wa.cell? ⟨w.heap.size + 1 + 1, 0, none⟩ = some (.slice none 0 0) := by { rw [cellB hb9 _ _ (by first | (simp; done) | (simp; omega) | omega)]; all_goals (first | assumption | go_simp) }; have t1a : wa.cell? ⟨w.heap.size + 1 + 1, 1, none⟩ = some (.slice none 0 0) := by { rw [cellB hb9 _ _ (by first | (simp; done) | (simp; omega) | omega)]; all_goals (first | assumption | go_simp) }; have t2a : wa.cell? ⟨w.heap.size + 1 + 1, 2, none⟩ = some (.bool false) := by { rw [cellB hb9 _ _ (by first | (simp; done) | (simp; omega) | omega)]; all_goals (first | assumption | go_simp) }; have k0a : wa.frozen? ⟨w.heap.size + 1 + 1, 0, none⟩ = false := by { rw [frozenB hb9 _ _ (by first | (simp; done) | (simp; omega) | omega)]; all_goals (first | assumption | go_simp) }; have k1a : wa.frozen? ⟨w.heap.size + 1 + 1, 1, none⟩ = false := by { rw [frozenB hb9 _ _ (by first | (simp; done) | (simp; omega) | omega)]; all_goals (first | assumption | go_simp) }; have k2a : wa.frozen? ⟨w.heap.size + 1 + 1, 2, none⟩ = false := by { rw [frozenB hb9 _ _ (by first | (simp; done) | (simp; omega) | omega)]; all_goals (first | assumption | go_simp) }; have cpa : wa.cell? ⟨b1, o1 + k * 2, none⟩ = some (.int .i64 p) := by { rw [cellB hb9 _ _ (by first | (simp; done) | (simp; omega) | omega)]; all_goals (first | assumption | go_simp) }; have cqa : wa.cell? ⟨b1, o1 + k * 2 + 1, none⟩ = some (.int .i64 q) := by { rw [cellB hb9 _ _ (by first | (simp; done) | (simp; omega) | omega)]; all_goals (first | assumption | go_simp) }
      have HBa := Lib.hid (HBW.out.trans (hb9.mono (by omega)))
      have HBl := Lib.hid (hB.out.trans hb9)
      have HA9 := Lib.hid HA8.out
      have lr2 : w.heap.size + 1 + 1 + 1 < wa.heap.size := by omega
      clear hb9 d0 d1 d2 e0 e1 cx cy cp cq c0 c1' c2 g0' g1' r0' r1' r2' t0' t1' t2' k0' k1' k2' hO hO1 hA HO7 HO71 HB7 HB7a HO8 HO81 HA8 HB8 hz7 hz8
      go_wp2_with fail
      refine wp_region_laterZ (B := w.heap.size + 1 + 1 + 1 + 1) [0, 1, 2, 3, 4, 5, 6, 7, 8, 9] [10, 11, 12, 13, 14, 15] 15 (by kernel_rfl) (by kernel_rfl) ?_; simp only [List.filterMap_cons, List.filterMap_nil, List.getElem?_cons_zero, List.getElem?_cons_succ]; repeat (show wpQuiet _ _ _ _ (_ :: _) _; go_big_quiet_step (fail))
      refine wpQuiet_nil ?_
      refine tailZ_cons ?_
      go_wp2_with fail
      refine (HP2.out k _ HBa.out.drew).mono ?_
      rintro e6 w6 ⟨rfl, rfl⟩
      go_wp2_with fail
      refine tailL_mk (by (repeat' (first | (with_reducible exact Below.refl _ _) | (with_reducible assumption) | (with_reducible refine Below.drewN ?_ _) | (with_reducible refine Below.alloc ?_ ?_ _) | (with_reducible refine Below.drew ?_) | (with_reducible refine Below.setCell ?_ ?_ _) | (with_reducible refine Below.step (by assumption) ?_ ?_) | (with_reducible exact And.left (by assumption)) | go_size))) ?_
      refine tailZ_cons ?_
      go_wp2_with fail
      refine (extreme1_any p q (p2 k) high (w.heap.size + 1) _ (by simp; omega) (by go_simp)).mono ?_
      rintro e7 w7 ⟨rfl, hb7⟩
      have hb7' : Below wa.heap.size wa w7 := (Below.refl wa.heap.size wa).drew.trans hb7
      have hz7 := hb7'.size
      have HO7 := Lib.hid (owns_below HO91wa.out hb7' (fun q hq => (HO91wa.out.lt q hq).2))
      have HO71 := Lib.hid (owns_below HO9wa.out hb7' (fun q hq => (HO9wa.out.lt q hq).2))
      have HB7 := Lib.hid (hb7'.mono (show w.heap.size + 1 + 1 + 1 + 1 ≤ wa.heap.size by omega))
      clear hb7 hb7'
      go_wp2_with fail
      refine tailL_mk HB7.out ?_
      refine tailZ_cons ?_
      go_wp2_with fail
      have HB7a := Lib.hid (show Below (w.heap.size + 1 + 1 + 1 + 1) wa (w7.alloc (Obj.cells #[Value.int IntKind.i64 (endOf (p, q) (p2 k) high)] 3)) from Below.alloc HB7.out (by omega) _)
      refine tailL_mk HB7a.out ?_
      refine tailZ_cons ?_
      go_wp2_with (at_builtin; refine wpList_append_one _ rfl _ _ rfl (w.heap.size + 1 + 1 + 1 + 1) k w7.heap.size (.slice av1 k cv1) _ (.int .i64 (endOf (p, q) (p2 k) high)) rfl (HO7.out.alloc _) rfl (by go_simp) rfl (by omega) (by simp; omega) ?_)
      intro v8 w8 hown8 hgr8 hat8 hb8
      obtain ⟨av3, cv3, rfl, _, _⟩ := owns_slice hown8
      have hb8' : Below (w.heap.size + 1 + 1 + 1 + 1) wa w8 := HB7a.out.trans hb8
      have hz8 := hb8'.size
      have ho81 := World.ownsRow.kept (HO71.out.alloc _) hgr8 (by
        rcases HA9.out with h | h
        · exact .inl h

        · exact .inr h)
      have hA8 : (Value.slice av2 (k + 1) cv2).ownBlock = none ∨ (Value.slice av2 (k + 1) cv2).ownBlock ≠ (Value.slice av3 (k + 1) cv3).ownBlock := by
        rcases hat8 with h | h
        · rw [h]; exact HA9.out
        · refine .inr (fun h2 => ?_)
          rw [h] at h2
          have := (HO9wa.out.lt _ h2).2
          first | omega | (simp at this; omega)
      have ho8 : w8.ownsRow (w.heap.size + 1 + 1 + 1 + 1) 3 1 (.slice av3 (k + 1) cv3) (k + 1) (icells (extAt e p2 high (k + 1))) := by
        rw [ext_snoc, HX1.out, icells_append]; exact hown8
      have HO8 := Lib.hid ho8
      have HO81 := Lib.hid ho81
      have HA8 := Lib.hid hA8
      have HB8 := Lib.hid hb8'
      have d0 : w8.cell? ⟨w.heap.size + 1 + 1 + 1, 0, none⟩ = some (.slice av2 (k + 1) cv2) := by { rw [cellB hb8' _ _ (by first | (simp; done) | (simp; omega) | omega)]; all_goals (first | assumption | go_simp) }; have d1 : w8.cell? ⟨w.heap.size + 1 + 1 + 1, 1, none⟩ = some (.slice av1 k cv1) := by { rw [cellB hb8' _ _ (by first | (simp; done) | (simp; omega) | omega)]; all_goals (first | assumption | go_simp) }; have d2 : w8.cell? ⟨w.heap.size + 1 + 1 + 1, 2, none⟩ = some (.bool g) := by { rw [cellB hb8' _ _ (by first | (simp; done) | (simp; omega) | omega)]; all_goals (first | assumption | go_simp) }; have e0 : w8.frozen? ⟨w.heap.size + 1 + 1 + 1, 0, none⟩ = false := by { rw [frozenB hb8' _ _ (by first | (simp; done) | (simp; omega) | omega)]; all_goals (first | assumption | go_simp) }; have e1 : w8.frozen? ⟨w.heap.size + 1 + 1 + 1, 1, none⟩ = false := by { rw [frozenB hb8' _ _ (by first | (simp; done) | (simp; omega) | omega)]; all_goals (first | assumption | go_simp) }
      clear hown8 hgr8 hat8 hb8 ho81 hA8 ho8 hb8'
      go_wp2_with fail
      refine tailL_mk HB8.out ?_
      refine tailZ_cons ?_
      go_wp2_with fail
      refine tailL_mk HB8.out ?_
      refine tailZ_last ?_
      go_wp2_with fail
      refine tailZ_end ?_
      have HO9wb := Lib.hid (ownsRow_setCell_below HO8.out (a := ⟨w.heap.size + 1 + 1 + 1, 1, none⟩) (by simp) (.slice av3 (k + 1) cv3))
      have HO91wb := Lib.hid (ownsRow_setCell_below HO81.out (a := ⟨w.heap.size + 1 + 1 + 1, 1, none⟩) (by simp) (.slice av3 (k + 1) cv3))
      have hb9 : Below (w.heap.size + 1 + 1 + 1) wa (w8.setCell ⟨w.heap.size + 1 + 1 + 1, 1, none⟩ (.slice av3 (k + 1) cv3)) := Below.setCell (HB8.out.mono (by omega)) (by simp) _
      have hz9 : w8.heap.size = (w8.setCell ⟨w.heap.size + 1 + 1 + 1, 1, none⟩ (.slice av3 (k + 1) cv3)).heap.size := by simp
      have z0 : (w8.setCell ⟨w.heap.size + 1 + 1 + 1, 1, none⟩ (.slice av3 (k + 1) cv3)).cell? ⟨w.heap.size + 1 + 1 + 1, 0, none⟩ = some (.slice av2 (k + 1) cv2) := by go_simp
      have z1 : (w8.setCell ⟨w.heap.size + 1 + 1 + 1, 1, none⟩ (.slice av3 (k + 1) cv3)).cell? ⟨w.heap.size + 1 + 1 + 1, 1, none⟩ = some (.slice av3 (k + 1) cv3) := by go_simp
      have z2 : (w8.setCell ⟨w.heap.size + 1 + 1 + 1, 1, none⟩ (.slice av3 (k + 1) cv3)).cell? ⟨w.heap.size + 1 + 1 + 1, 2, none⟩ = some (.bool g) := by go_simp
      have u0 : (w8.setCell ⟨w.heap.size + 1 + 1 + 1, 1, none⟩ (.slice av3 (k + 1) cv3)).frozen? ⟨w.heap.size + 1 + 1 + 1, 0, none⟩ = false := by go_simp
      have u1 : (w8.setCell ⟨w.heap.size + 1 + 1 + 1, 1, none⟩ (.slice av3 (k + 1) cv3)).frozen? ⟨w.heap.size + 1 + 1 + 1, 1, none⟩ = false := by go_simp
      generalize w8.setCell ⟨w.heap.size + 1 + 1 + 1, 1, none⟩ (.slice av3 (k + 1) cv3) = wb at *
      have HBe := Lib.hid (HBl.out.trans hb9)
      have lr3 : w.heap.size + 1 + 1 + 1 < wb.heap.size := by omega
      have HAe := Lib.hid HA8.out
      clear hb9 d0 d1 d2 e0 e1 HO7 HO71 HB7 HB7a HO8 HO81 HA8 HB8 hz7 hz8 x0 x1 x2 y0 y1 r0a r1a r2a t0a t1a t2a k0a k1a k2a cpa cqa
      go_wp2
      go_roundw
      case rel => exact ⟨k + 1, by go_num, by omega, ⟨av2, cv2, av3, cv3, z0, z1, HO91wb, HO9wb, HAe⟩, z2, u0, u1, lr3, HBe⟩
      case measure => simp [intOf]; omega
    · obtain rfl : k = n := by omega
      go_wp2
      refine bodyPost_ret (v := .agg #[.slice av k cv, .slice av1 k cv1, .bool g]) (by simp [results, Try.results76, go_sem, t0', t1', t2']) rfl ⟨av, cv, av1, cv1, rfl, ?_, ?_, ?_⟩
      · have := HBW.out
        (repeat' (first | (with_reducible exact Below.refl _ _) | (with_reducible assumption) | (with_reducible refine Below.drewN ?_ _) | (with_reducible refine Below.alloc ?_ ?_ _) | (with_reducible refine Below.drew ?_) | (with_reducible refine Below.setCell ?_ ?_ _) | (with_reducible refine Below.step (by assumption) ?_ ?_) | (with_reducible exact And.left (by assumption)) | go_size))
      · exact SlR.of_owns (ownsRow_setCell_below (ownsRow_setCell_below (ownsRow_setCell_below hO.out (a := ⟨w.heap.size + 1 + 1, 0, none⟩) (by simp) _) (a := ⟨w.heap.size + 1 + 1, 1, none⟩) (by simp) _) (a := ⟨w.heap.size + 1 + 1, 2, none⟩) (by simp) _)
      · exact SlR.of_owns (ownsRow_setCell_below (ownsRow_setCell_below (ownsRow_setCell_below hO1.out (a := ⟨w.heap.size + 1 + 1, 0, none⟩) (by simp) _) (a := ⟨w.heap.size + 1 + 1, 1, none⟩) (by simp) _) (a := ⟨w.heap.size + 1 + 1, 2, none⟩) (by simp) _)
end Go.Proofs.Ytphgacledebolaa

/- The span of a node. -/
namespace Go.Proofs.Ytphgacledebolaa
open Go.RowKit
set_option linter.unusedVariables false

theorem ns1_any (x k : Int) (G : Nat) (w : World) (hG : G < w.heap.size) (hc : w.cell? ⟨G, 0, none⟩ = some (.int .i64 k)) :
    Calls Try.prog 73 #[.int .i64 x, .pointer (some ⟨G, 0, none⟩)] w fun e w' => e = .returned (.bool (decide (x < k))) ∧ w = w' := by
  go_enter Try.func73, Try.ntmps73
  go_wp2
  go_ret
  exact ⟨rfl, rfl⟩
theorem ns2_any (x : Int) (w : World) :
    Calls Try.prog 74 #[.int .i64 x] w fun e w' => e = .returned (.bool false) ∧ w = w' := by
  go_enter Try.func74, Try.ntmps74
  go_wp2
  go_ret
  exact ⟨rfl, rfl⟩
theorem cf_ns1 (args : Array Value) (w : World) : (callFunc 73 args).run Try.prog w = .ok (.enter 73 args) w := by kernel_rfl
theorem cf_ns2 (args : Array Value) (w : World) : (callFunc 74 args).run Try.prog w = .ok (.enter 74 args) w := by kernel_rfl
theorem cf_ns3 (args : Array Value) (w : World) : (callFunc 75 args).run Try.prog w = .ok (.enter 75 args) w := by kernel_rfl
/-- A node's voltage in the ladder of extreme capacitances: a numerator and a denominator. -/
def np1 (k : Nat) (i : Nat) : Bool := decide ((i : Int) < (k : Int))
def np2 (i : Nat) : Bool := false
def nodeNum (s e : List (Int × Int)) (n L k : Nat) (high : Bool) : Int :=
  (numsOf (extAt s (np1 k) high n) (extAt e np2 high n) n L).getD k 0
def nodeDen (s e : List (Int × Int)) (n L k : Nat) (high : Bool) : Int := dd (extAt s (np1 k) high n) (extAt e np2 high n) L L
def nodeFr (s e : List (Int × Int)) (n L k : Nat) (high : Bool) : Int × Int := low (nodeNum s e n L k high) (nodeDen s e n L k high)

set_option maxHeartbeats 2000000 in
set_option maxRecDepth 100000 in
theorem ns3_any (s e : List (Int × Int)) (a a1 : Option Addr) (n c n1 c1 L k R O A G : Nat) (g high : Bool) (w : World) (hs : PairsR w a n s) (he : PairsR w a1 n1 e) (h0 : rngErr s e = 0) (hL : lastOf n g = L) (hk : k ≤ n)
    (r0 : w.cell? ⟨R, 0, none⟩ = some (.slice a n c)) (r1 : w.cell? ⟨R, 1, none⟩ = some (.slice a1 n1 c1)) (r2 : w.cell? ⟨R, 2, none⟩ = some (.bool g))
    (ro : w.cell? ⟨O, 0, none⟩ = some (.func (.func 73) #[] #[.pointer (some ⟨G, 0, none⟩)])) (ra : w.cell? ⟨A, 0, none⟩ = some (.func (.func 74) #[] #[]))
    (rg : w.cell? ⟨G, 0, none⟩ = some (.int .i64 k)) (lR : R < w.heap.size) (lO : O < w.heap.size) (lA : A < w.heap.size) (lG : G < w.heap.size) :
    Calls Try.prog 75 #[.bool high, .pointer (some ⟨R, 0, none⟩), .pointer (some ⟨O, 0, none⟩), .pointer (some ⟨A, 0, none⟩), .pointer (some ⟨G, 0, none⟩)] w fun e' w' =>
      e' = .returned (.agg #[.int .i64 (nodeFr s e n L k high).1, .int .i64 (nodeFr s e n L k high).2]) ∧ Below w.heap.size w w' := by
  obtain ⟨hn0, hel, h6, hbd⟩ := rngErr_zero h0
  rw [hs.len] at hn0 hel h6 hbd
  rw [he.len] at hel
  obtain rfl : n1 = n := hel
  have hLb : L ≤ n1 ∧ n1 ≤ L + 1 := by
    unfold lastOf at hL
    split at hL <;> omega
  have bs := ext_bd s (np1 k) high n1 1 100 (fun i hi => by have := hbd i hi; omega)
  have be := ext_bd e np2 high n1 0 100 (fun i hi => by have := hbd i hi; omega)
  have HX := Lib.hid (fun (w' : World) (hb : Below w.heap.size w w') => extremeN_any s e (np1 k) np2 _ _ a a1 n1 c n1 c1 G g high w' (hs.below hb) (he.below hb) rfl (by omega) cf_ns1 cf_ns2
    (fun i w'' hb2 => ns1_any i k G w'' (by have := hb.size; have := hb2.size; omega) (by rw [cellB (hb.trans (hb2.mono hb.size)) _ _ lG]; exact rg))
    (fun i w'' hb2 => ns2_any i w''))
  have hSl := ext_len s (np1 k) high n1
  have hEl := ext_len e np2 high n1
  have hGN : nodeNum s e n1 L k high = (numsOf (extAt s (np1 k) high n1) (extAt e np2 high n1) n1 L).getD k 0 := rfl
  have hGD : nodeDen s e n1 L k high = dd (extAt s (np1 k) high n1) (extAt e np2 high n1) L L := rfl
  have hFr : nodeFr s e n1 L k high = low (nodeNum s e n1 L k high) (nodeDen s e n1 L k high) := rfl
  rw [hFr]
  generalize nodeNum s e n1 L k high = GN at *
  generalize nodeDen s e n1 L k high = GD at *
  generalize extAt s (np1 k) high n1 = S at *
  generalize extAt e np2 high n1 = E at *
  clear hFr
  have HI := Lib.hid (fun (w' : World) (av av1 : Option Addr) (cv cv1 : Nat) (h1 : IntsR w' av n1 S) (h2 : IntsR w' av1 n1 E) => cinit_main S E av av1 n1 cv n1 cv1 L g w' h1 h2 rfl hn0 h6 hL hLb.1 hLb.2 (fun x hx => by have := bs x hx; omega) be)
  have hdp := dd_pos S E L bs be (by omega) L (Nat.le_refl _)
  have hdb := (dd_bd6 S E L (fun x hx => by have := bs x hx; omega) be L (by omega)).2
  have hnb := nums_bd S E n1 L bs be (by omega)
  rw [← hGD] at hdp hdb hnb HI
  have hNl : (numsOf S E n1 L).length = n1 + 1 := by simp [numsOf]
  generalize numsOf S E n1 L = N at *
  obtain ⟨N1, hN1⟩ : ∃ x, x = N.getD k 0 := ⟨_, rfl⟩
  have b1 : 0 ≤ N1 ∧ N1 ≤ GD := by rw [hN1]; exact hnb _ (getD_mem (by omega))
  rw [← hN1] at hGN
  have HN1 := Lib.hid hN1
  obtain ⟨⟨p, q⟩, hpq⟩ : ∃ f, low GN GD = f := ⟨_, rfl⟩
  have hlow := fun w' => lowest_any GN GD w' (by omega) (by omega) hdp (by omega)
  rw [show GN.tdiv (gc GN GD) = p from congrArg Prod.fst hpq, show GD / gc GN GD = q from congrArg Prod.snd hpq] at hlow
  rw [hpq]
  have HLOW := Lib.hid hlow
  have HGN := Lib.hid hGN
  clear hlow hpq hN1 hnb hGD bs be hbd hs he h0 hL hSl hEl hNl hGN
  have i0 : (0 : Int) ≤ (k : Int) := by omega
  have i1 : (k : Int) < (n1 : Int) + 1 := by omega
  go_enter Try.func75, Try.ntmps75
  go_wp2_with fail
  refine (HX.out _ (by (repeat' (first | (with_reducible exact Below.refl _ _) | (with_reducible assumption) | (with_reducible refine Below.drewN ?_ _) | (with_reducible refine Below.alloc ?_ ?_ _) | (with_reducible refine Below.drew ?_) | (with_reducible refine Below.setCell ?_ ?_ _) | (with_reducible refine Below.step (by assumption) ?_ ?_) | (with_reducible exact And.left (by assumption)) | go_size)))).mono ?_
  rintro e5 w5 ⟨av, cv, av1, cv1, rfl, hb5, hi1, hi2⟩
  have hz5 := hb5.size
  simp only [World.size_alloc] at hz5
  have rg5 : w5.cell? ⟨G, 0, none⟩ = some (.int .i64 k) := by { rw [cellB hb5 _ _ (by first | (simp; done) | (simp; omega) | omega)]; all_goals (first | assumption | go_simp) }; have p0 : w5.cell? ⟨w.heap.size, 0, none⟩ = some (.int .i64 0) := by { rw [cellB hb5 _ _ (by first | (simp; done) | (simp; omega) | omega)]; all_goals (first | assumption | go_simp) }; have p1 : w5.cell? ⟨w.heap.size, 1, none⟩ = some (.int .i64 0) := by { rw [cellB hb5 _ _ (by first | (simp; done) | (simp; omega) | omega)]; all_goals (first | assumption | go_simp) }; have f0 : w5.frozen? ⟨w.heap.size, 0, none⟩ = false := by { rw [frozenB hb5 _ _ (by first | (simp; done) | (simp; omega) | omega)]; all_goals (first | assumption | go_simp) }; have f1 : w5.frozen? ⟨w.heap.size, 1, none⟩ = false := by { rw [frozenB hb5 _ _ (by first | (simp; done) | (simp; omega) | omega)]; all_goals (first | assumption | go_simp) }; have l5 : w.heap.size < w5.heap.size := by { omega }
  have HB5 := Lib.hid (show Below w.heap.size w w5 by (repeat' (first | (with_reducible exact Below.refl _ _) | (with_reducible assumption) | (with_reducible refine Below.drewN ?_ _) | (with_reducible refine Below.alloc ?_ ?_ _) | (with_reducible refine Below.drew ?_) | (with_reducible refine Below.setCell ?_ ?_ _) | (with_reducible refine Below.step (by assumption) ?_ ?_) | (with_reducible exact And.left (by assumption)) | go_size)))
  have H1 := Lib.hid (And.intro hi1 hi2)
  clear hb5 HX hi1 hi2 r0 r1 r2 ro ra rg
  go_wp2_with fail
  refine (HI.out _ _ _ _ _ H1.out.1 H1.out.2).mono ?_
  rintro e6 w6 ⟨g6, rfl, hb6, hi6⟩
  have hz6 := hb6.size
  have rg6 : w6.cell? ⟨G, 0, none⟩ = some (.int .i64 k) := by { rw [cellB hb6 _ _ (by first | (simp; done) | (simp; omega) | omega)]; all_goals (first | assumption | go_simp) }; have p0' : w6.cell? ⟨w.heap.size, 0, none⟩ = some (.int .i64 0) := by { rw [cellB hb6 _ _ (by first | (simp; done) | (simp; omega) | omega)]; all_goals (first | assumption | go_simp) }; have p1' : w6.cell? ⟨w.heap.size, 1, none⟩ = some (.int .i64 0) := by { rw [cellB hb6 _ _ (by first | (simp; done) | (simp; omega) | omega)]; all_goals (first | assumption | go_simp) }; have f0' : w6.frozen? ⟨w.heap.size, 0, none⟩ = false := by { rw [frozenB hb6 _ _ (by first | (simp; done) | (simp; omega) | omega)]; all_goals (first | assumption | go_simp) }; have f1' : w6.frozen? ⟨w.heap.size, 1, none⟩ = false := by { rw [frozenB hb6 _ _ (by first | (simp; done) | (simp; omega) | omega)]; all_goals (first | assumption | go_simp) }; have l6 : w.heap.size < w6.heap.size := by { omega }
  have HB6 := Lib.hid (HB5.out.trans (hb6.mono HB5.out.size))
  obtain ⟨b6, o6, hq6, hbl6, hc6⟩ := hi6.addr (by omega)
  simp only [Option.some.injEq, Addr.mk.injEq] at hq6
  obtain ⟨rfl, rfl, _⟩ := hq6
  have cn1 : w6.cell? ⟨g6, k, none⟩ = some (.int .i64 N1) := by rw [HN1.out]; have := hc6 k (by omega); rwa [Nat.zero_add] at this
  clear hb6 hi6 hc6 HI H1 HB5 rg5 p0 p1 f0 f1
  go_wp2_with fail
  rw [← HGN.out]
  refine (HLOW.out _).mono ?_
  rintro e8 w8 ⟨rfl, hb8⟩
  have hb8' : Below w6.heap.size w6 w8 := hb8
  have hz8 := hb8'.size
  have p0 : w8.cell? ⟨w.heap.size, 0, none⟩ = some (.int .i64 0) := by { rw [cellB hb8' _ _ (by first | (simp; done) | (simp; omega) | omega)]; all_goals (first | assumption | go_simp) }; have p1 : w8.cell? ⟨w.heap.size, 1, none⟩ = some (.int .i64 0) := by { rw [cellB hb8' _ _ (by first | (simp; done) | (simp; omega) | omega)]; all_goals (first | assumption | go_simp) }; have f0 : w8.frozen? ⟨w.heap.size, 0, none⟩ = false := by { rw [frozenB hb8' _ _ (by first | (simp; done) | (simp; omega) | omega)]; all_goals (first | assumption | go_simp) }; have f1 : w8.frozen? ⟨w.heap.size, 1, none⟩ = false := by { rw [frozenB hb8' _ _ (by first | (simp; done) | (simp; omega) | omega)]; all_goals (first | assumption | go_simp) }; have l8 : w.heap.size < w8.heap.size := by { omega }
  have HB8 := Lib.hid (HB6.out.trans (hb8'.mono HB6.out.size))
  clear hb8 hb8' HLOW
  go_wp2
  refine bodyPost_ret (v := .agg #[.int .i64 p, .int .i64 q]) (by simp [results, Try.results75, go_sem, p0, p1]) rfl ⟨rfl, ?_⟩
  have := HB8.out
  (repeat' (first | (with_reducible exact Below.refl _ _) | (with_reducible assumption) | (with_reducible refine Below.drewN ?_ _) | (with_reducible refine Below.alloc ?_ ?_ _) | (with_reducible refine Below.drew ?_) | (with_reducible refine Below.setCell ?_ ?_ _) | (with_reducible refine Below.step (by assumption) ?_ ?_) | (with_reducible exact And.left (by assumption)) | go_size))
end Go.Proofs.Ytphgacledebolaa

/- The span of a node: the exported function. -/
namespace Go.Proofs.Ytphgacledebolaa
open Go.RowKit
set_option linter.unusedVariables false

/-- The errors of a node's span. -/
def nodeErr (s e : List (Int × Int)) (node : Int) : Int := firstErr [rngErr s e, unl (wi node 0 (s.length : Int)) 6]
set_option maxRecDepth 100000 in
theorem nodeSpan_bad (s e : List (Int × Int)) (a a1 : Option Addr) (n c n1 c1 : Nat) (g : Bool) (gap E : Int) (w : World) (hs : PairsR w a n s) (he : PairsR w a1 n1 e) (hE : nodeErr s e gap = E) (h0 : E ≠ 0) (bg : -9223372036854775808 ≤ gap) (bg2 : gap ≤ 9223372036854775807) :
    Calls Try.prog 11 #[.agg #[.slice a n c, .slice a1 n1 c1, .bool g], .int .i64 gap] w fun e' w' => e' = .returned (.tuple #[.agg #[.int .i64 0, .int .i64 0, .int .i64 0, .int .i64 0], .int .i64 E]) ∧ Below w.heap.size w w' := by
  have HC := Lib.hid (fun (w' : World) (hb : Below w.heap.size w w') => checkRanges_any s e a a1 n c n1 c1 g w' (hs.below hb) (he.below hb))
  have hn := hs.small
  unfold nodeErr at hE
  rw [hs.len] at hE
  clear hs he
  generalize rngErr s e = r at *
  obtain ⟨gb, hgb⟩ : ∃ b, b = wi gap 0 (n : Int) := ⟨_, rfl⟩
  rw [← hgb] at hE
  have HG := Lib.hid hgb
  have HE := Lib.hid hE
  have h1 : (E != 0) = true := by simpa using h0
  clear hgb hE h0
  go_enter Try.func11, Try.ntmps11
  go_wp2_with fail
  generalize hW : ((w.alloc _).alloc _).alloc _ = w0
  have hb0 : Below w.heap.size w w0 := by rw [← hW]; (repeat' (first | (with_reducible exact Below.refl _ _) | (with_reducible assumption) | (with_reducible refine Below.drewN ?_ _) | (with_reducible refine Below.alloc ?_ ?_ _) | (with_reducible refine Below.drew ?_) | (with_reducible refine Below.setCell ?_ ?_ _) | (with_reducible refine Below.step (by assumption) ?_ ?_) | (with_reducible exact And.left (by assumption)) | go_size))
  have s0 : w0.cell? ⟨w.heap.size + 1 + 1, 0, none⟩ = some (.int .i64 0) := by { rw [← hW]; clear hW; go_simp }; have sf0 : w0.frozen? ⟨w.heap.size + 1 + 1, 0, none⟩ = false := by { rw [← hW]; clear hW; go_simp }; have s1 : w0.cell? ⟨w.heap.size + 1 + 1, 1, none⟩ = some (.int .i64 0) := by { rw [← hW]; clear hW; go_simp }; have sf1 : w0.frozen? ⟨w.heap.size + 1 + 1, 1, none⟩ = false := by { rw [← hW]; clear hW; go_simp }; have s2 : w0.cell? ⟨w.heap.size + 1 + 1, 2, none⟩ = some (.int .i64 0) := by { rw [← hW]; clear hW; go_simp }; have sf2 : w0.frozen? ⟨w.heap.size + 1 + 1, 2, none⟩ = false := by { rw [← hW]; clear hW; go_simp }; have s3 : w0.cell? ⟨w.heap.size + 1 + 1, 3, none⟩ = some (.int .i64 0) := by { rw [← hW]; clear hW; go_simp }; have sf3 : w0.frozen? ⟨w.heap.size + 1 + 1, 3, none⟩ = false := by { rw [← hW]; clear hW; go_simp }
  have sr0 : w0.cell? ⟨w.heap.size, 0, none⟩ = some (.slice a n c) := by { rw [← hW]; clear hW; go_simp }
  have sr1 : w0.cell? ⟨w.heap.size, 1, none⟩ = some (.slice a1 n1 c1) := by { rw [← hW]; clear hW; go_simp }
  have sr2 : w0.cell? ⟨w.heap.size, 2, none⟩ = some (.bool g) := by { rw [← hW]; clear hW; go_simp }
  have srg : w0.cell? ⟨w.heap.size + 1, 0, none⟩ = some (.int .i64 gap) := by { rw [← hW]; clear hW; go_simp }
  have hz0 : w0.heap.size = w.heap.size + 1 + 1 + 1 := by rw [← hW]; simp
  have HB0 := Lib.hid hb0
  clear hW hb0
  refine later_of_eq 6 (by kernel_rfl) (by kernel_rfl) ?_; simp only [List.take_succ_cons, List.take_zero, List.drop_succ_cons, List.drop_zero]; repeat go_big_quiet_step (exact calls_later (HC.out _ (HB0.out.trans (Below.mono (Later.below _) (by omega)))))
  refine wpQuiet_nil ?_; intro w5 hb5
  have hz5 := hb5.size
  have u0 : w5.cell? ⟨w.heap.size + 1 + 1, 0, none⟩ = some (.int .i64 0) := by { rw [cellB hb5 _ _ (by first | (simp; done) | (simp; omega) | omega)]; all_goals (first | assumption | go_simp) }; have u1 : w5.cell? ⟨w.heap.size + 1 + 1, 1, none⟩ = some (.int .i64 0) := by { rw [cellB hb5 _ _ (by first | (simp; done) | (simp; omega) | omega)]; all_goals (first | assumption | go_simp) }; have u2 : w5.cell? ⟨w.heap.size + 1 + 1, 2, none⟩ = some (.int .i64 0) := by { rw [cellB hb5 _ _ (by first | (simp; done) | (simp; omega) | omega)]; all_goals (first | assumption | go_simp) }; have u3 : w5.cell? ⟨w.heap.size + 1 + 1, 3, none⟩ = some (.int .i64 0) := by { rw [cellB hb5 _ _ (by first | (simp; done) | (simp; omega) | omega)]; all_goals (first | assumption | go_simp) }; have uf0 : w5.frozen? ⟨w.heap.size + 1 + 1, 0, none⟩ = false := by { rw [frozenB hb5 _ _ (by first | (simp; done) | (simp; omega) | omega)]; all_goals (first | assumption | go_simp) }; have uf1 : w5.frozen? ⟨w.heap.size + 1 + 1, 1, none⟩ = false := by { rw [frozenB hb5 _ _ (by first | (simp; done) | (simp; omega) | omega)]; all_goals (first | assumption | go_simp) }; have uf2 : w5.frozen? ⟨w.heap.size + 1 + 1, 2, none⟩ = false := by { rw [frozenB hb5 _ _ (by first | (simp; done) | (simp; omega) | omega)]; all_goals (first | assumption | go_simp) }; have uf3 : w5.frozen? ⟨w.heap.size + 1 + 1, 3, none⟩ = false := by { rw [frozenB hb5 _ _ (by first | (simp; done) | (simp; omega) | omega)]; all_goals (first | assumption | go_simp) }; have ur0 : w5.cell? ⟨w.heap.size, 0, none⟩ = some (.slice a n c) := by { rw [cellB hb5 _ _ (by first | (simp; done) | (simp; omega) | omega)]; all_goals (first | assumption | go_simp) }; have ur1 : w5.cell? ⟨w.heap.size, 1, none⟩ = some (.slice a1 n1 c1) := by { rw [cellB hb5 _ _ (by first | (simp; done) | (simp; omega) | omega)]; all_goals (first | assumption | go_simp) }; have ur2 : w5.cell? ⟨w.heap.size, 2, none⟩ = some (.bool g) := by { rw [cellB hb5 _ _ (by first | (simp; done) | (simp; omega) | omega)]; all_goals (first | assumption | go_simp) }; have urg : w5.cell? ⟨w.heap.size + 1, 0, none⟩ = some (.int .i64 gap) := by { rw [cellB hb5 _ _ (by first | (simp; done) | (simp; omega) | omega)]; all_goals (first | assumption | go_simp) }; have ul0 : w.heap.size < w5.heap.size := by { omega }; have ul1 : w.heap.size + 1 < w5.heap.size := by { omega }; have ul2 : w.heap.size + 1 + 1 < w5.heap.size := by { omega }
  have HB5 := Lib.hid (HB0.out.trans (hb5.mono (by omega)))
  clear hb5 HC s0 s1 s2 s3 sf0 sf1 sf2 sf3 sr0 sr1 sr2 srg HB0
  go_wp2_with fail
  refine (within_any _ _ _ _).mono ?_
  rintro e6 w6 ⟨rfl, rfl⟩
  rw [← HG.out]
  go_wp2_with fail
  refine (unless_any _ _ _).mono ?_
  rintro e6 w6 ⟨rfl, rfl⟩
  go_wp2_with fail
  refine (first2 _ _ _ _ _ _ (by rfl) (by simp)).mono ?_
  rintro e6 w6 ⟨rfl, rfl⟩
  rw [HE.out]
  generalize hW : w5.alloc _ = w6
  have hb6 : Below w5.heap.size w5 w6 := by rw [← hW]; (repeat' (first | (with_reducible exact Below.refl _ _) | (with_reducible assumption) | (with_reducible refine Below.drewN ?_ _) | (with_reducible refine Below.alloc ?_ ?_ _) | (with_reducible refine Below.drew ?_) | (with_reducible refine Below.setCell ?_ ?_ _) | (with_reducible refine Below.step (by assumption) ?_ ?_) | (with_reducible exact And.left (by assumption)) | go_size))
  have hz6 := hb6.size
  have v0 : w6.cell? ⟨w.heap.size + 1 + 1, 0, none⟩ = some (.int .i64 0) := by { rw [cellB hb6 _ _ (by first | (simp; done) | (simp; omega) | omega)]; all_goals (first | assumption | go_simp) }; have v1 : w6.cell? ⟨w.heap.size + 1 + 1, 1, none⟩ = some (.int .i64 0) := by { rw [cellB hb6 _ _ (by first | (simp; done) | (simp; omega) | omega)]; all_goals (first | assumption | go_simp) }; have v2 : w6.cell? ⟨w.heap.size + 1 + 1, 2, none⟩ = some (.int .i64 0) := by { rw [cellB hb6 _ _ (by first | (simp; done) | (simp; omega) | omega)]; all_goals (first | assumption | go_simp) }; have v3 : w6.cell? ⟨w.heap.size + 1 + 1, 3, none⟩ = some (.int .i64 0) := by { rw [cellB hb6 _ _ (by first | (simp; done) | (simp; omega) | omega)]; all_goals (first | assumption | go_simp) }; have vf0 : w6.frozen? ⟨w.heap.size + 1 + 1, 0, none⟩ = false := by { rw [frozenB hb6 _ _ (by first | (simp; done) | (simp; omega) | omega)]; all_goals (first | assumption | go_simp) }; have vf1 : w6.frozen? ⟨w.heap.size + 1 + 1, 1, none⟩ = false := by { rw [frozenB hb6 _ _ (by first | (simp; done) | (simp; omega) | omega)]; all_goals (first | assumption | go_simp) }; have vf2 : w6.frozen? ⟨w.heap.size + 1 + 1, 2, none⟩ = false := by { rw [frozenB hb6 _ _ (by first | (simp; done) | (simp; omega) | omega)]; all_goals (first | assumption | go_simp) }; have vf3 : w6.frozen? ⟨w.heap.size + 1 + 1, 3, none⟩ = false := by { rw [frozenB hb6 _ _ (by first | (simp; done) | (simp; omega) | omega)]; all_goals (first | assumption | go_simp) }; have vr0 : w6.cell? ⟨w.heap.size, 0, none⟩ = some (.slice a n c) := by { rw [cellB hb6 _ _ (by first | (simp; done) | (simp; omega) | omega)]; all_goals (first | assumption | go_simp) }; have vr1 : w6.cell? ⟨w.heap.size, 1, none⟩ = some (.slice a1 n1 c1) := by { rw [cellB hb6 _ _ (by first | (simp; done) | (simp; omega) | omega)]; all_goals (first | assumption | go_simp) }; have vr2 : w6.cell? ⟨w.heap.size, 2, none⟩ = some (.bool g) := by { rw [cellB hb6 _ _ (by first | (simp; done) | (simp; omega) | omega)]; all_goals (first | assumption | go_simp) }; have vrg : w6.cell? ⟨w.heap.size + 1, 0, none⟩ = some (.int .i64 gap) := by { rw [cellB hb6 _ _ (by first | (simp; done) | (simp; omega) | omega)]; all_goals (first | assumption | go_simp) }; have vl0 : w.heap.size < w6.heap.size := by { omega }; have vl1 : w.heap.size + 1 < w6.heap.size := by { omega }; have vl2 : w.heap.size + 1 + 1 < w6.heap.size := by { omega }
  have HB6 := Lib.hid (HB5.out.trans (hb6.mono HB5.out.size))
  clear hW hb6 u0 uf0 u1 uf1 u2 uf2 u3 uf3 ur0 ur1 ur2 urg ul0 ul1 ul2 HB5
  go_wp2
  refine bodyPost_ret (v := .tuple #[.agg #[.int .i64 0, .int .i64 0, .int .i64 0, .int .i64 0], .int .i64 E]) (by simp [results, Try.results11, go_sem, v0, v1, v2, v3]) rfl ⟨rfl, ?_⟩
  have := HB6.out
  (repeat' (first | (with_reducible exact Below.refl _ _) | (with_reducible assumption) | (with_reducible refine Below.drewN ?_ _) | (with_reducible refine Below.alloc ?_ ?_ _) | (with_reducible refine Below.drew ?_) | (with_reducible refine Below.setCell ?_ ?_ _) | (with_reducible refine Below.step (by assumption) ?_ ?_) | (with_reducible exact And.left (by assumption)) | go_size))

set_option maxHeartbeats 1000000 in
set_option maxRecDepth 100000 in
theorem nodeSpan_ok (s e : List (Int × Int)) (a a1 : Option Addr) (n c n1 c1 L k : Nat) (g : Bool) (gap : Int) (hgap : gap = (k : Int)) (w : World) (hs : PairsR w a n s) (he : PairsR w a1 n1 e) (h0 : rngErr s e = 0) (hL : lastOf n g = L) (hk : k ≤ n) :
    Calls Try.prog 11 #[.agg #[.slice a n c, .slice a1 n1 c1, .bool g], .int .i64 gap] w fun e' w' => e' = .returned (.tuple (if smallF (nodeFr s e n L k false) && smallF (nodeFr s e n L k true) then #[.agg #[.int .i64 (nodeFr s e n L k false).1, .int .i64 (nodeFr s e n L k false).2, .int .i64 (nodeFr s e n L k true).1, .int .i64 (nodeFr s e n L k true).2], .int .i64 0] else #[.agg #[.int .i64 0, .int .i64 0, .int .i64 0, .int .i64 0], .int .i64 8])) ∧ Below w.heap.size w w' := by
  have HC := Lib.hid (fun (w' : World) (hb : Below w.heap.size w w') => checkRanges_any s e a a1 n c n1 c1 g w' (hs.below hb) (he.below hb))
  rw [h0] at HC
  have hn := hs.small
  have HAT := Lib.hid (fun (high : Bool) (w' : World) (O A : Nat) (hb : Below w.heap.size w w') r0 r1 r2 ro ra rg l1 l2 l3 l4 => ns3_any s e a a1 n c n1 c1 L k w.heap.size O A (w.heap.size + 1) g high w' (hs.below hb) (he.below hb) h0 hL hk r0 r1 r2 ro ra rg l1 l2 l3 l4)
  clear hs he h0 hL
  obtain ⟨⟨p, q⟩, hf1⟩ : ∃ f, nodeFr s e n L k false = f := ⟨_, rfl⟩
  obtain ⟨⟨p2, q2⟩, hf2⟩ : ∃ f, nodeFr s e n L k true = f := ⟨_, rfl⟩
  have HAT1 := Lib.hid (HAT.out false)
  have HAT2 := Lib.hid (HAT.out true)
  rw [hf1] at HAT1 ⊢
  rw [hf2] at HAT2 ⊢
  clear hf1 hf2 HAT
  have HSP := Lib.hid (fun w' => span_any p q p2 q2 w')
  generalize (smallF (p, q) && smallF (p2, q2)) = S at *
  obtain ⟨gb, hgb⟩ : ∃ b, b = wi (k : Int) 0 (n : Int) := ⟨_, rfl⟩
  obtain rfl : gb = true := by rw [hgb, wi_iff]; omega
  have HG := Lib.hid hgb
  have HE := Lib.hid (show firstErr [0, unl true 6] = 0 from rfl)
  rw [← hgap] at HG
  clear hgb
  rw [← hgap] at HAT1 HAT2
  have bg : 0 ≤ gap ∧ gap ≤ 9223372036854775807 := by omega
  clear hgap
  go_enter Try.func11, Try.ntmps11
  go_wp2_with fail
  generalize hW : ((w.alloc _).alloc _).alloc _ = w0
  have hb0 : Below w.heap.size w w0 := by rw [← hW]; (repeat' (first | (with_reducible exact Below.refl _ _) | (with_reducible assumption) | (with_reducible refine Below.drewN ?_ _) | (with_reducible refine Below.alloc ?_ ?_ _) | (with_reducible refine Below.drew ?_) | (with_reducible refine Below.setCell ?_ ?_ _) | (with_reducible refine Below.step (by assumption) ?_ ?_) | (with_reducible exact And.left (by assumption)) | go_size))
  have s0 : w0.cell? ⟨w.heap.size + 1 + 1, 0, none⟩ = some (.int .i64 0) := by { rw [← hW]; clear hW; go_simp }; have sf0 : w0.frozen? ⟨w.heap.size + 1 + 1, 0, none⟩ = false := by { rw [← hW]; clear hW; go_simp }; have s1 : w0.cell? ⟨w.heap.size + 1 + 1, 1, none⟩ = some (.int .i64 0) := by { rw [← hW]; clear hW; go_simp }; have sf1 : w0.frozen? ⟨w.heap.size + 1 + 1, 1, none⟩ = false := by { rw [← hW]; clear hW; go_simp }; have s2 : w0.cell? ⟨w.heap.size + 1 + 1, 2, none⟩ = some (.int .i64 0) := by { rw [← hW]; clear hW; go_simp }; have sf2 : w0.frozen? ⟨w.heap.size + 1 + 1, 2, none⟩ = false := by { rw [← hW]; clear hW; go_simp }; have s3 : w0.cell? ⟨w.heap.size + 1 + 1, 3, none⟩ = some (.int .i64 0) := by { rw [← hW]; clear hW; go_simp }; have sf3 : w0.frozen? ⟨w.heap.size + 1 + 1, 3, none⟩ = false := by { rw [← hW]; clear hW; go_simp }
  have sr0 : w0.cell? ⟨w.heap.size, 0, none⟩ = some (.slice a n c) := by { rw [← hW]; clear hW; go_simp }
  have sr1 : w0.cell? ⟨w.heap.size, 1, none⟩ = some (.slice a1 n1 c1) := by { rw [← hW]; clear hW; go_simp }
  have sr2 : w0.cell? ⟨w.heap.size, 2, none⟩ = some (.bool g) := by { rw [← hW]; clear hW; go_simp }
  have srg : w0.cell? ⟨w.heap.size + 1, 0, none⟩ = some (.int .i64 gap) := by { rw [← hW]; clear hW; go_simp }
  have hz0 : w0.heap.size = w.heap.size + 1 + 1 + 1 := by rw [← hW]; simp
  have HB0 := Lib.hid hb0
  clear hW hb0
  refine later_of_eq 6 (by kernel_rfl) (by kernel_rfl) ?_; simp only [List.take_succ_cons, List.take_zero, List.drop_succ_cons, List.drop_zero]; repeat go_big_quiet_step (exact calls_later (HC.out _ (HB0.out.trans (Below.mono (Later.below _) (by omega)))))
  refine wpQuiet_nil ?_; intro w5 hb5
  have hz5 := hb5.size
  have u0 : w5.cell? ⟨w.heap.size + 1 + 1, 0, none⟩ = some (.int .i64 0) := by { rw [cellB hb5 _ _ (by first | (simp; done) | (simp; omega) | omega)]; all_goals (first | assumption | go_simp) }; have u1 : w5.cell? ⟨w.heap.size + 1 + 1, 1, none⟩ = some (.int .i64 0) := by { rw [cellB hb5 _ _ (by first | (simp; done) | (simp; omega) | omega)]; all_goals (first | assumption | go_simp) }; have u2 : w5.cell? ⟨w.heap.size + 1 + 1, 2, none⟩ = some (.int .i64 0) := by { rw [cellB hb5 _ _ (by first | (simp; done) | (simp; omega) | omega)]; all_goals (first | assumption | go_simp) }; have u3 : w5.cell? ⟨w.heap.size + 1 + 1, 3, none⟩ = some (.int .i64 0) := by { rw [cellB hb5 _ _ (by first | (simp; done) | (simp; omega) | omega)]; all_goals (first | assumption | go_simp) }; have uf0 : w5.frozen? ⟨w.heap.size + 1 + 1, 0, none⟩ = false := by { rw [frozenB hb5 _ _ (by first | (simp; done) | (simp; omega) | omega)]; all_goals (first | assumption | go_simp) }; have uf1 : w5.frozen? ⟨w.heap.size + 1 + 1, 1, none⟩ = false := by { rw [frozenB hb5 _ _ (by first | (simp; done) | (simp; omega) | omega)]; all_goals (first | assumption | go_simp) }; have uf2 : w5.frozen? ⟨w.heap.size + 1 + 1, 2, none⟩ = false := by { rw [frozenB hb5 _ _ (by first | (simp; done) | (simp; omega) | omega)]; all_goals (first | assumption | go_simp) }; have uf3 : w5.frozen? ⟨w.heap.size + 1 + 1, 3, none⟩ = false := by { rw [frozenB hb5 _ _ (by first | (simp; done) | (simp; omega) | omega)]; all_goals (first | assumption | go_simp) }; have ur0 : w5.cell? ⟨w.heap.size, 0, none⟩ = some (.slice a n c) := by { rw [cellB hb5 _ _ (by first | (simp; done) | (simp; omega) | omega)]; all_goals (first | assumption | go_simp) }; have ur1 : w5.cell? ⟨w.heap.size, 1, none⟩ = some (.slice a1 n1 c1) := by { rw [cellB hb5 _ _ (by first | (simp; done) | (simp; omega) | omega)]; all_goals (first | assumption | go_simp) }; have ur2 : w5.cell? ⟨w.heap.size, 2, none⟩ = some (.bool g) := by { rw [cellB hb5 _ _ (by first | (simp; done) | (simp; omega) | omega)]; all_goals (first | assumption | go_simp) }; have urg : w5.cell? ⟨w.heap.size + 1, 0, none⟩ = some (.int .i64 gap) := by { rw [cellB hb5 _ _ (by first | (simp; done) | (simp; omega) | omega)]; all_goals (first | assumption | go_simp) }; have ul0 : w.heap.size < w5.heap.size := by { omega }; have ul1 : w.heap.size + 1 < w5.heap.size := by { omega }; have ul2 : w.heap.size + 1 + 1 < w5.heap.size := by { omega }
  have HB5 := Lib.hid (HB0.out.trans (hb5.mono (by omega)))
  clear hb5 HC s0 s1 s2 s3 sf0 sf1 sf2 sf3 sr0 sr1 sr2 srg HB0
  go_wp2_with fail
  refine (within_any _ _ _ _).mono ?_
  rintro e6 w6 ⟨rfl, rfl⟩
  rw [← HG.out]
  go_wp2_with fail
  refine (unless_any _ _ _).mono ?_
  rintro e6 w6 ⟨rfl, rfl⟩
  go_wp2_with fail
  refine (first2 _ _ _ _ _ _ (by rfl) (by simp)).mono ?_
  rintro e6 w6 ⟨rfl, rfl⟩
  rw [HE.out]
  generalize hW : w5.alloc _ = w6
  have hb6 : Below w5.heap.size w5 w6 := by rw [← hW]; (repeat' (first | (with_reducible exact Below.refl _ _) | (with_reducible assumption) | (with_reducible refine Below.drewN ?_ _) | (with_reducible refine Below.alloc ?_ ?_ _) | (with_reducible refine Below.drew ?_) | (with_reducible refine Below.setCell ?_ ?_ _) | (with_reducible refine Below.step (by assumption) ?_ ?_) | (with_reducible exact And.left (by assumption)) | go_size))
  have hz6 := hb6.size
  have v0 : w6.cell? ⟨w.heap.size + 1 + 1, 0, none⟩ = some (.int .i64 0) := by { rw [cellB hb6 _ _ (by first | (simp; done) | (simp; omega) | omega)]; all_goals (first | assumption | go_simp) }; have v1 : w6.cell? ⟨w.heap.size + 1 + 1, 1, none⟩ = some (.int .i64 0) := by { rw [cellB hb6 _ _ (by first | (simp; done) | (simp; omega) | omega)]; all_goals (first | assumption | go_simp) }; have v2 : w6.cell? ⟨w.heap.size + 1 + 1, 2, none⟩ = some (.int .i64 0) := by { rw [cellB hb6 _ _ (by first | (simp; done) | (simp; omega) | omega)]; all_goals (first | assumption | go_simp) }; have v3 : w6.cell? ⟨w.heap.size + 1 + 1, 3, none⟩ = some (.int .i64 0) := by { rw [cellB hb6 _ _ (by first | (simp; done) | (simp; omega) | omega)]; all_goals (first | assumption | go_simp) }; have vf0 : w6.frozen? ⟨w.heap.size + 1 + 1, 0, none⟩ = false := by { rw [frozenB hb6 _ _ (by first | (simp; done) | (simp; omega) | omega)]; all_goals (first | assumption | go_simp) }; have vf1 : w6.frozen? ⟨w.heap.size + 1 + 1, 1, none⟩ = false := by { rw [frozenB hb6 _ _ (by first | (simp; done) | (simp; omega) | omega)]; all_goals (first | assumption | go_simp) }; have vf2 : w6.frozen? ⟨w.heap.size + 1 + 1, 2, none⟩ = false := by { rw [frozenB hb6 _ _ (by first | (simp; done) | (simp; omega) | omega)]; all_goals (first | assumption | go_simp) }; have vf3 : w6.frozen? ⟨w.heap.size + 1 + 1, 3, none⟩ = false := by { rw [frozenB hb6 _ _ (by first | (simp; done) | (simp; omega) | omega)]; all_goals (first | assumption | go_simp) }; have vr0 : w6.cell? ⟨w.heap.size, 0, none⟩ = some (.slice a n c) := by { rw [cellB hb6 _ _ (by first | (simp; done) | (simp; omega) | omega)]; all_goals (first | assumption | go_simp) }; have vr1 : w6.cell? ⟨w.heap.size, 1, none⟩ = some (.slice a1 n1 c1) := by { rw [cellB hb6 _ _ (by first | (simp; done) | (simp; omega) | omega)]; all_goals (first | assumption | go_simp) }; have vr2 : w6.cell? ⟨w.heap.size, 2, none⟩ = some (.bool g) := by { rw [cellB hb6 _ _ (by first | (simp; done) | (simp; omega) | omega)]; all_goals (first | assumption | go_simp) }; have vrg : w6.cell? ⟨w.heap.size + 1, 0, none⟩ = some (.int .i64 gap) := by { rw [cellB hb6 _ _ (by first | (simp; done) | (simp; omega) | omega)]; all_goals (first | assumption | go_simp) }; have vl0 : w.heap.size < w6.heap.size := by { omega }; have vl1 : w.heap.size + 1 < w6.heap.size := by { omega }; have vl2 : w.heap.size + 1 + 1 < w6.heap.size := by { omega }
  have HB6 := Lib.hid (HB5.out.trans (hb6.mono HB5.out.size))
  clear hW hb6 u0 uf0 u1 uf1 u2 uf2 u3 uf3 ur0 ur1 ur2 urg ul0 ul1 ul2 HB5
  go_wp2_with fail
  generalize hW : (w6.alloc _).alloc _ = w7
  have ro : w7.cell? ⟨w6.heap.size, 0, none⟩ = some (.func (.func 73) #[] #[.pointer (some ⟨w.heap.size + 1, 0, none⟩)]) := by { rw [← hW]; clear hW; go_simp }
  have ra : w7.cell? ⟨w6.heap.size + 1, 0, none⟩ = some (.func (.func 74) #[] #[]) := by { rw [← hW]; clear hW; go_simp }
  have lo : w6.heap.size < w7.heap.size := by { rw [← hW]; simp; omega }
  have la : w6.heap.size + 1 < w7.heap.size := by { rw [← hW]; simp }
  have hb7 : Below w6.heap.size w6 w7 := by rw [← hW]; (repeat' (first | (with_reducible exact Below.refl _ _) | (with_reducible assumption) | (with_reducible refine Below.drewN ?_ _) | (with_reducible refine Below.alloc ?_ ?_ _) | (with_reducible refine Below.drew ?_) | (with_reducible refine Below.setCell ?_ ?_ _) | (with_reducible refine Below.step (by assumption) ?_ ?_) | (with_reducible exact And.left (by assumption)) | go_size))
  have hz7 := hb7.size
  have u0 : w7.cell? ⟨w.heap.size + 1 + 1, 0, none⟩ = some (.int .i64 0) := by { rw [cellB hb7 _ _ (by first | (simp; done) | (simp; omega) | omega)]; all_goals (first | assumption | go_simp) }; have u1 : w7.cell? ⟨w.heap.size + 1 + 1, 1, none⟩ = some (.int .i64 0) := by { rw [cellB hb7 _ _ (by first | (simp; done) | (simp; omega) | omega)]; all_goals (first | assumption | go_simp) }; have u2 : w7.cell? ⟨w.heap.size + 1 + 1, 2, none⟩ = some (.int .i64 0) := by { rw [cellB hb7 _ _ (by first | (simp; done) | (simp; omega) | omega)]; all_goals (first | assumption | go_simp) }; have u3 : w7.cell? ⟨w.heap.size + 1 + 1, 3, none⟩ = some (.int .i64 0) := by { rw [cellB hb7 _ _ (by first | (simp; done) | (simp; omega) | omega)]; all_goals (first | assumption | go_simp) }; have uf0 : w7.frozen? ⟨w.heap.size + 1 + 1, 0, none⟩ = false := by { rw [frozenB hb7 _ _ (by first | (simp; done) | (simp; omega) | omega)]; all_goals (first | assumption | go_simp) }; have uf1 : w7.frozen? ⟨w.heap.size + 1 + 1, 1, none⟩ = false := by { rw [frozenB hb7 _ _ (by first | (simp; done) | (simp; omega) | omega)]; all_goals (first | assumption | go_simp) }; have uf2 : w7.frozen? ⟨w.heap.size + 1 + 1, 2, none⟩ = false := by { rw [frozenB hb7 _ _ (by first | (simp; done) | (simp; omega) | omega)]; all_goals (first | assumption | go_simp) }; have uf3 : w7.frozen? ⟨w.heap.size + 1 + 1, 3, none⟩ = false := by { rw [frozenB hb7 _ _ (by first | (simp; done) | (simp; omega) | omega)]; all_goals (first | assumption | go_simp) }; have ur0 : w7.cell? ⟨w.heap.size, 0, none⟩ = some (.slice a n c) := by { rw [cellB hb7 _ _ (by first | (simp; done) | (simp; omega) | omega)]; all_goals (first | assumption | go_simp) }; have ur1 : w7.cell? ⟨w.heap.size, 1, none⟩ = some (.slice a1 n1 c1) := by { rw [cellB hb7 _ _ (by first | (simp; done) | (simp; omega) | omega)]; all_goals (first | assumption | go_simp) }; have ur2 : w7.cell? ⟨w.heap.size, 2, none⟩ = some (.bool g) := by { rw [cellB hb7 _ _ (by first | (simp; done) | (simp; omega) | omega)]; all_goals (first | assumption | go_simp) }; have urg : w7.cell? ⟨w.heap.size + 1, 0, none⟩ = some (.int .i64 gap) := by { rw [cellB hb7 _ _ (by first | (simp; done) | (simp; omega) | omega)]; all_goals (first | assumption | go_simp) }; have ul0 : w.heap.size < w7.heap.size := by { omega }; have ul1 : w.heap.size + 1 < w7.heap.size := by { omega }; have ul2 : w.heap.size + 1 + 1 < w7.heap.size := by { omega }
  have HB7 := Lib.hid (HB6.out.trans (hb7.mono HB6.out.size))
  clear hW hb7 v0 vf0 v1 vf1 v2 vf2 v3 vf3 vr0 vr1 vr2 vrg vl0 vl1 vl2 HB6
  refine (HAT1.out _ _ _ HB7.out ur0 ur1 ur2 ro ra urg ul0 lo la ul1).mono ?_
  rintro e8 w8 ⟨rfl, hb8⟩
  have hz8 := hb8.size
  have v0 : w8.cell? ⟨w.heap.size + 1 + 1, 0, none⟩ = some (.int .i64 0) := by { rw [cellB hb8 _ _ (by first | (simp; done) | (simp; omega) | omega)]; all_goals (first | assumption | go_simp) }; have v1 : w8.cell? ⟨w.heap.size + 1 + 1, 1, none⟩ = some (.int .i64 0) := by { rw [cellB hb8 _ _ (by first | (simp; done) | (simp; omega) | omega)]; all_goals (first | assumption | go_simp) }; have v2 : w8.cell? ⟨w.heap.size + 1 + 1, 2, none⟩ = some (.int .i64 0) := by { rw [cellB hb8 _ _ (by first | (simp; done) | (simp; omega) | omega)]; all_goals (first | assumption | go_simp) }; have v3 : w8.cell? ⟨w.heap.size + 1 + 1, 3, none⟩ = some (.int .i64 0) := by { rw [cellB hb8 _ _ (by first | (simp; done) | (simp; omega) | omega)]; all_goals (first | assumption | go_simp) }; have vf0 : w8.frozen? ⟨w.heap.size + 1 + 1, 0, none⟩ = false := by { rw [frozenB hb8 _ _ (by first | (simp; done) | (simp; omega) | omega)]; all_goals (first | assumption | go_simp) }; have vf1 : w8.frozen? ⟨w.heap.size + 1 + 1, 1, none⟩ = false := by { rw [frozenB hb8 _ _ (by first | (simp; done) | (simp; omega) | omega)]; all_goals (first | assumption | go_simp) }; have vf2 : w8.frozen? ⟨w.heap.size + 1 + 1, 2, none⟩ = false := by { rw [frozenB hb8 _ _ (by first | (simp; done) | (simp; omega) | omega)]; all_goals (first | assumption | go_simp) }; have vf3 : w8.frozen? ⟨w.heap.size + 1 + 1, 3, none⟩ = false := by { rw [frozenB hb8 _ _ (by first | (simp; done) | (simp; omega) | omega)]; all_goals (first | assumption | go_simp) }; have vr0 : w8.cell? ⟨w.heap.size, 0, none⟩ = some (.slice a n c) := by { rw [cellB hb8 _ _ (by first | (simp; done) | (simp; omega) | omega)]; all_goals (first | assumption | go_simp) }; have vr1 : w8.cell? ⟨w.heap.size, 1, none⟩ = some (.slice a1 n1 c1) := by { rw [cellB hb8 _ _ (by first | (simp; done) | (simp; omega) | omega)]; all_goals (first | assumption | go_simp) }; have vr2 : w8.cell? ⟨w.heap.size, 2, none⟩ = some (.bool g) := by { rw [cellB hb8 _ _ (by first | (simp; done) | (simp; omega) | omega)]; all_goals (first | assumption | go_simp) }; have vrg : w8.cell? ⟨w.heap.size + 1, 0, none⟩ = some (.int .i64 gap) := by { rw [cellB hb8 _ _ (by first | (simp; done) | (simp; omega) | omega)]; all_goals (first | assumption | go_simp) }; have vl0 : w.heap.size < w8.heap.size := by { omega }; have vl1 : w.heap.size + 1 < w8.heap.size := by { omega }; have vl2 : w.heap.size + 1 + 1 < w8.heap.size := by { omega }
  have ro8 : w8.cell? ⟨w6.heap.size, 0, none⟩ = some (.func (.func 73) #[] #[.pointer (some ⟨w.heap.size + 1, 0, none⟩)]) := by rw [cellB hb8 _ _ lo]; exact ro
  have ra8 : w8.cell? ⟨w6.heap.size + 1, 0, none⟩ = some (.func (.func 74) #[] #[]) := by rw [cellB hb8 _ _ la]; exact ra
  have lo8 : w6.heap.size < w8.heap.size := by omega
  have la8 : w6.heap.size + 1 < w8.heap.size := by omega
  have HB8 := Lib.hid (HB7.out.trans (hb8.mono HB7.out.size))
  clear hb8 u0 uf0 u1 uf1 u2 uf2 u3 uf3 ur0 ur1 ur2 urg ul0 ul1 ul2 ro ra lo la HB7 HAT1
  go_wp2_with fail
  refine (HAT2.out _ _ _ HB8.out vr0 vr1 vr2 ro8 ra8 vrg vl0 lo8 la8 vl1).mono ?_
  rintro e9 w9 ⟨rfl, hb9⟩
  have hz9 := hb9.size
  have u0 : w9.cell? ⟨w.heap.size + 1 + 1, 0, none⟩ = some (.int .i64 0) := by { rw [cellB hb9 _ _ (by first | (simp; done) | (simp; omega) | omega)]; all_goals (first | assumption | go_simp) }; have u1 : w9.cell? ⟨w.heap.size + 1 + 1, 1, none⟩ = some (.int .i64 0) := by { rw [cellB hb9 _ _ (by first | (simp; done) | (simp; omega) | omega)]; all_goals (first | assumption | go_simp) }; have u2 : w9.cell? ⟨w.heap.size + 1 + 1, 2, none⟩ = some (.int .i64 0) := by { rw [cellB hb9 _ _ (by first | (simp; done) | (simp; omega) | omega)]; all_goals (first | assumption | go_simp) }; have u3 : w9.cell? ⟨w.heap.size + 1 + 1, 3, none⟩ = some (.int .i64 0) := by { rw [cellB hb9 _ _ (by first | (simp; done) | (simp; omega) | omega)]; all_goals (first | assumption | go_simp) }; have uf0 : w9.frozen? ⟨w.heap.size + 1 + 1, 0, none⟩ = false := by { rw [frozenB hb9 _ _ (by first | (simp; done) | (simp; omega) | omega)]; all_goals (first | assumption | go_simp) }; have uf1 : w9.frozen? ⟨w.heap.size + 1 + 1, 1, none⟩ = false := by { rw [frozenB hb9 _ _ (by first | (simp; done) | (simp; omega) | omega)]; all_goals (first | assumption | go_simp) }; have uf2 : w9.frozen? ⟨w.heap.size + 1 + 1, 2, none⟩ = false := by { rw [frozenB hb9 _ _ (by first | (simp; done) | (simp; omega) | omega)]; all_goals (first | assumption | go_simp) }; have uf3 : w9.frozen? ⟨w.heap.size + 1 + 1, 3, none⟩ = false := by { rw [frozenB hb9 _ _ (by first | (simp; done) | (simp; omega) | omega)]; all_goals (first | assumption | go_simp) }; have ul2 : w.heap.size + 1 + 1 < w9.heap.size := by { omega }
  have HB9 := Lib.hid (HB8.out.trans (hb9.mono HB8.out.size))
  clear hb9 v0 vf0 v1 vf1 v2 vf2 v3 vf3 vr0 vr1 vr2 vrg vl0 vl1 vl2 ro8 ra8 lo8 la8 HB8 HAT2
  go_wp2_with fail
  refine (HSP.out w9).mono ?_
  rintro e10 w10 ⟨rfl, hb10⟩
  have hz10 := hb10.size
  have v0 : w10.cell? ⟨w.heap.size + 1 + 1, 0, none⟩ = some (.int .i64 0) := by { rw [cellB hb10 _ _ (by first | (simp; done) | (simp; omega) | omega)]; all_goals (first | assumption | go_simp) }; have v1 : w10.cell? ⟨w.heap.size + 1 + 1, 1, none⟩ = some (.int .i64 0) := by { rw [cellB hb10 _ _ (by first | (simp; done) | (simp; omega) | omega)]; all_goals (first | assumption | go_simp) }; have v2 : w10.cell? ⟨w.heap.size + 1 + 1, 2, none⟩ = some (.int .i64 0) := by { rw [cellB hb10 _ _ (by first | (simp; done) | (simp; omega) | omega)]; all_goals (first | assumption | go_simp) }; have v3 : w10.cell? ⟨w.heap.size + 1 + 1, 3, none⟩ = some (.int .i64 0) := by { rw [cellB hb10 _ _ (by first | (simp; done) | (simp; omega) | omega)]; all_goals (first | assumption | go_simp) }; have vf0 : w10.frozen? ⟨w.heap.size + 1 + 1, 0, none⟩ = false := by { rw [frozenB hb10 _ _ (by first | (simp; done) | (simp; omega) | omega)]; all_goals (first | assumption | go_simp) }; have vf1 : w10.frozen? ⟨w.heap.size + 1 + 1, 1, none⟩ = false := by { rw [frozenB hb10 _ _ (by first | (simp; done) | (simp; omega) | omega)]; all_goals (first | assumption | go_simp) }; have vf2 : w10.frozen? ⟨w.heap.size + 1 + 1, 2, none⟩ = false := by { rw [frozenB hb10 _ _ (by first | (simp; done) | (simp; omega) | omega)]; all_goals (first | assumption | go_simp) }; have vf3 : w10.frozen? ⟨w.heap.size + 1 + 1, 3, none⟩ = false := by { rw [frozenB hb10 _ _ (by first | (simp; done) | (simp; omega) | omega)]; all_goals (first | assumption | go_simp) }; have vl2 : w.heap.size + 1 + 1 < w10.heap.size := by { omega }
  have HB10 := Lib.hid (HB9.out.trans (hb10.mono HB9.out.size))
  clear hb10 u0 uf0 u1 uf1 u2 uf2 u3 uf3 HB9
  cases S
  · go_wp2
    refine bodyPost_ret (v := .tuple #[.agg #[.int .i64 0, .int .i64 0, .int .i64 0, .int .i64 0], .int .i64 8]) (by simp [results, Try.results11, go_sem, v0, v1, v2, v3]) rfl ⟨rfl, ?_⟩
    have := HB10.out
    (repeat' (first | (with_reducible exact Below.refl _ _) | (with_reducible assumption) | (with_reducible refine Below.drewN ?_ _) | (with_reducible refine Below.alloc ?_ ?_ _) | (with_reducible refine Below.drew ?_) | (with_reducible refine Below.setCell ?_ ?_ _) | (with_reducible refine Below.step (by assumption) ?_ ?_) | (with_reducible exact And.left (by assumption)) | go_size))
  · go_wp2
    refine bodyPost_ret (v := .tuple #[.agg #[.int .i64 p, .int .i64 q, .int .i64 p2, .int .i64 q2], .int .i64 0]) (by simp [results, Try.results11, go_sem, v0, v1, v2, v3]) rfl ⟨rfl, ?_⟩
    have := HB10.out
    (repeat' (first | (with_reducible exact Below.refl _ _) | (with_reducible assumption) | (with_reducible refine Below.drewN ?_ _) | (with_reducible refine Below.alloc ?_ ?_ _) | (with_reducible refine Below.drew ?_) | (with_reducible refine Below.setCell ?_ ?_ _) | (with_reducible refine Below.step (by assumption) ?_ ?_) | (with_reducible exact And.left (by assumption)) | go_size))
end Go.Proofs.Ytphgacledebolaa
