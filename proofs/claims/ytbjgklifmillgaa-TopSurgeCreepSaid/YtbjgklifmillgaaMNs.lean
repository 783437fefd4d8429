import Derived.Test.YtbjgklifmillgaaExtreme
import Derived.Test.YtbjgklifmillgaaMGs
/- The ladder of extreme capacitances, where the second condition is a function without variables of its own. -/
namespace Go.Proofs.Ytbjgklifmillgaa
open Go.RowKit
set_option linter.unusedVariables false

set_option maxHeartbeats 4000000 in
set_option maxRecDepth 100000 in
theorem extremeN_any (s e : List (Int × Int)) (p1 p2 : Nat → Bool) (f1 f2 : FuncId) (a a1 : Option Addr) (n c n1 c1 G : Nat) (g high : Bool) (w : World) (hs : PairsR w a n s) (he : PairsR w a1 n1 e) (h1 : n1 = n) (h6 : n ≤ 1000)
    (hf1 : ∀ args w, (callFunc f1 args).run Try.prog w = .ok (.enter f1 args) w) (hf2 : ∀ args w, (callFunc f2 args).run Try.prog w = .ok (.enter f2 args) w)
    (hp1 : ∀ (k : Nat) (w' : World), Below w.heap.size w w' → Calls Try.prog f1 #[.int .i64 k, .pointer (some ⟨G, 0, none⟩)] w' fun e w'' => e = .returned (.bool (p1 k)) ∧ w' = w'')
    (hp2 : ∀ (k : Nat) (w' : World), Below w.heap.size w w' → Calls Try.prog f2 #[.int .i64 k] w' fun e w'' => e = .returned (.bool (p2 k)) ∧ w' = w'') :
    Calls Try.prog 80 #[.agg #[.slice a n c, .slice a1 n1 c1, .bool g], .bool high, .func (.func f1) #[] #[.pointer (some ⟨G, 0, none⟩)], .func (.func f2) #[] #[]] w fun e' w' =>
      ∃ av cv av1 cv1, e' = .returned (.agg #[.slice av n cv, .slice av1 n cv1, .bool g]) ∧ Below w.heap.size w w' ∧ IntsR w' av n (extAt s p1 high n) ∧ IntsR w' av1 n (extAt e p2 high n) := by
  subst n1
  have HS := Lib.hid hs
  have HE := Lib.hid he
  have HP1 := Lib.hid hp1
  have HP2 := Lib.hid hp2
  have hn := hs.small
  clear hs he hp1 hp2
  go_enter Try.func80, Try.ntmps80
  go_wp2
  generalize hW : World.alloc _ _ = w5
  have hb5 : Below w.heap.size w w5 := by rw [← hW]; (repeat' (first | (with_reducible exact Below.refl _ _) | (with_reducible assumption) | (with_reducible refine Below.drewN ?_ _) | (with_reducible refine Below.alloc ?_ ?_ _) | (with_reducible refine Below.drew ?_) | (with_reducible refine Below.setCell ?_ ?_ _) | (with_reducible refine Below.step (by assumption) ?_ ?_) | (with_reducible exact And.left (by assumption)) | go_size))
  have r0 : w5.cell? ⟨w.heap.size, 0, none⟩ = some (.slice a n c) := by { rw [← hW]; clear hW; go_simp }
  have r1 : w5.cell? ⟨w.heap.size, 1, none⟩ = some (.slice a1 n c1) := by { rw [← hW]; clear hW; go_simp }
  have r2 : w5.cell? ⟨w.heap.size + 1, 0, none⟩ = some (.bool high) := by { rw [← hW]; clear hW; go_simp }
  have t0 : w5.cell? ⟨w.heap.size + 1 + 1, 0, none⟩ = some (.slice none 0 0) := by { rw [← hW]; clear hW; go_simp }
  have t1 : w5.cell? ⟨w.heap.size + 1 + 1, 1, none⟩ = some (.slice none 0 0) := by { rw [← hW]; clear hW; go_simp }
  have t2 : w5.cell? ⟨w.heap.size + 1 + 1, 2, none⟩ = some (.bool false) := by { rw [← hW]; clear hW; go_simp }
  have k0 : w5.frozen? ⟨w.heap.size + 1 + 1, 0, none⟩ = false := by { rw [← hW]; clear hW; go_simp }
  have k1 : w5.frozen? ⟨w.heap.size + 1 + 1, 1, none⟩ = false := by { rw [← hW]; clear hW; go_simp }
  have k2 : w5.frozen? ⟨w.heap.size + 1 + 1, 2, none⟩ = false := by { rw [← hW]; clear hW; go_simp }
  have c0 : w5.cell? ⟨w.heap.size + 1 + 1 + 1, 0, none⟩ = some (.slice none 0 0) := by { rw [← hW]; clear hW; go_simp }
  have c1' : w5.cell? ⟨w.heap.size + 1 + 1 + 1, 1, none⟩ = some (.slice none 0 0) := by { rw [← hW]; clear hW; go_simp }
  have c2 : w5.cell? ⟨w.heap.size + 1 + 1 + 1, 2, none⟩ = some (.bool g) := by { rw [← hW]; clear hW; go_simp }
  have g0' : w5.frozen? ⟨w.heap.size + 1 + 1 + 1, 0, none⟩ = false := by { rw [← hW]; clear hW; go_simp }
  have g1' : w5.frozen? ⟨w.heap.size + 1 + 1 + 1, 1, none⟩ = false := by { rw [← hW]; clear hW; go_simp }
  have l5 : w.heap.size + 1 + 1 + 1 < w5.heap.size := by rw [← hW]; simp
  have HB5 := Lib.hid hb5
  clear hW hb5
  go_loopw [19] (fun i wr => ∃ k : Nat, i = .int .i64 k ∧ k ≤ n ∧ (∃ av cv av1 cv1, wr.cell? ⟨w.heap.size + 1 + 1 + 1, 0, none⟩ = some (.slice av k cv) ∧ wr.cell? ⟨w.heap.size + 1 + 1 + 1, 1, none⟩ = some (.slice av1 k cv1) ∧ Hid (wr.ownsRow (w.heap.size + 1 + 1 + 1 + 1) 3 1 (.slice av k cv) k (icells (extAt s p1 high k))) ∧ Hid (wr.ownsRow (w.heap.size + 1 + 1 + 1 + 1) 3 1 (.slice av1 k cv1) k (icells (extAt e p2 high k))) ∧ Hid ((Value.slice av k cv).ownBlock = none ∨ (Value.slice av k cv).ownBlock ≠ (Value.slice av1 k cv1).ownBlock)) ∧
      wr.cell? ⟨w.heap.size + 1 + 1 + 1, 2, none⟩ = some (.bool g) ∧ wr.frozen? ⟨w.heap.size + 1 + 1 + 1, 0, none⟩ = false ∧ wr.frozen? ⟨w.heap.size + 1 + 1 + 1, 1, none⟩ = false ∧ w.heap.size + 1 + 1 + 1 < wr.heap.size ∧ Hid (Below (w.heap.size + 1 + 1 + 1) w5 wr)) (fun i _ => n - (intOf i).toNat)
  case atStart =>
    exact ⟨0, rfl, Nat.zero_le _, ⟨none, 0, none, 0, c0, c1', Lib.hid (World.ownsRow_nil _ _ _ _), Lib.hid (World.ownsRow_nil _ _ _ _), Lib.hid (.inl rfl)⟩, c2, g0', g1', l5, Lib.hid (Below.refl _ _)⟩
  case round =>
    clear c0 c1' c2 g0' g1' l5
    obtain ⟨k, rfl, hk, ⟨av, cv, av1, cv1, c0, c1', hO, hO1, hA⟩, c2, g0', g1', lr, hB⟩ := hrel
    have hbr := hB.out
    have hbw := HB5.out.trans (hbr.mono (by omega))
    have r0' : wr.cell? ⟨w.heap.size, 0, none⟩ = some (.slice a n c) := by { rw [cellB hbr _ _ (by first | (simp; done) | (simp; omega) | omega)]; all_goals (first | assumption | go_simp) }; have r1' : wr.cell? ⟨w.heap.size, 1, none⟩ = some (.slice a1 n c1) := by { rw [cellB hbr _ _ (by first | (simp; done) | (simp; omega) | omega)]; all_goals (first | assumption | go_simp) }; have r2' : wr.cell? ⟨w.heap.size + 1, 0, none⟩ = some (.bool high) := by { rw [cellB hbr _ _ (by first | (simp; done) | (simp; omega) | omega)]; all_goals (first | assumption | go_simp) }; have t0' : wr.cell? ⟨w.heap.size + 1 + 1, 0, none⟩ = some (.slice none 0 0) := by { rw [cellB hbr _ _ (by first | (simp; done) | (simp; omega) | omega)]; all_goals (first | assumption | go_simp) }; have t1' : wr.cell? ⟨w.heap.size + 1 + 1, 1, none⟩ = some (.slice none 0 0) := by { rw [cellB hbr _ _ (by first | (simp; done) | (simp; omega) | omega)]; all_goals (first | assumption | go_simp) }; have t2' : wr.cell? ⟨w.heap.size + 1 + 1, 2, none⟩ = some (.bool false) := by { rw [cellB hbr _ _ (by first | (simp; done) | (simp; omega) | omega)]; all_goals (first | assumption | go_simp) }; have k0' : wr.frozen? ⟨w.heap.size + 1 + 1, 0, none⟩ = false := by { rw [frozenB hbr _ _ (by first | (simp; done) | (simp; omega) | omega)]; all_goals (first | assumption | go_simp) }; have k1' : wr.frozen? ⟨w.heap.size + 1 + 1, 1, none⟩ = false := by { rw [frozenB hbr _ _ (by first | (simp; done) | (simp; omega) | omega)]; all_goals (first | assumption | go_simp) }; have k2' : wr.frozen? ⟨w.heap.size + 1 + 1, 2, none⟩ = false := by { rw [frozenB hbr _ _ (by first | (simp; done) | (simp; omega) | omega)]; all_goals (first | assumption | go_simp) }
    have HBW := Lib.hid hbw
    clear hbr
    have lh0 : w.heap.size < w.heap.size + 1 + 1 + 1 + 1 := by omega
    have lh1 : w.heap.size + 1 < w.heap.size + 1 + 1 + 1 + 1 := by omega
    have lh2 : w.heap.size + 1 + 1 < w.heap.size + 1 + 1 + 1 + 1 := by omega
    have lh3 : w.heap.size + 1 + 1 + 1 < w.heap.size + 1 + 1 + 1 + 1 := by omega
    rcases Nat.lt_or_ge k n with hlt | hge
    · obtain ⟨b0, o0, rfl, hb0, hc0⟩ := HS.out.addr (by omega)
      obtain ⟨b1, o1, rfl, hb1, hc1⟩ := HE.out.addr (by omega)
      obtain ⟨x, hx⟩ : ∃ x, x = (s.getD k (0, 0)).1 := ⟨_, rfl⟩
      obtain ⟨y, hy⟩ : ∃ y, y = (s.getD k (0, 0)).2 := ⟨_, rfl⟩
      obtain ⟨p, hp⟩ : ∃ p, p = (e.getD k (0, 0)).1 := ⟨_, rfl⟩
      obtain ⟨q, hq⟩ : ∃ q, q = (e.getD k (0, 0)).2 := ⟨_, rfl⟩
      have cx : wr.cell? ⟨b0, o0 + k * 2, none⟩ = some (.int .i64 x) := by rw [cellB hbw _ _ hb0, hx]; exact (hc0 k hlt).1
      have cy : wr.cell? ⟨b0, o0 + k * 2 + 1, none⟩ = some (.int .i64 y) := by rw [cellB hbw _ _ hb0, hy]; exact (hc0 k hlt).2
      have cp : wr.cell? ⟨b1, o1 + k * 2, none⟩ = some (.int .i64 p) := by rw [cellB hbw _ _ hb1, hp]; exact (hc1 k hlt).1
      have cq : wr.cell? ⟨b1, o1 + k * 2 + 1, none⟩ = some (.int .i64 q) := by rw [cellB hbw _ _ hb1, hq]; exact (hc1 k hlt).2
      have lb0 : b0 < w.heap.size + 1 + 1 + 1 + 1 := by omega
      have lb1 : b1 < w.heap.size + 1 + 1 + 1 + 1 := by omega
      have HX := Lib.hid (show s.getD k (0, 0) = (x, y) by rw [hx, hy])
      have HX1 := Lib.hid (show e.getD k (0, 0) = (p, q) by rw [hp, hq])
      have i2 : (0 : Int) ≤ (k : Int) := by omega
      have i3 : (k : Int) < (n : Int) := by omega
      clear hbw hx hy hp hq hc0 hc1
      go_wp2_with fail
      refine wp_region_laterZ (B := w.heap.size + 1 + 1 + 1 + 1) [0, 1, 2, 3, 4, 5, 6, 7, 8, 9] [10, 11, 12, 13, 14, 15] 15 (by kernel_rfl) (by kernel_rfl) ?_; simp only [List.filterMap_cons, List.filterMap_nil, List.getElem?_cons_zero, List.getElem?_cons_succ]; repeat (show wpQuiet _ _ _ _ (_ :: _) _; go_big_quiet_step (fail))
      refine wpQuiet_nil ?_
      refine tailZ_cons ?_
      go_wp2_with fail
      refine (HP1.out k _ HBW.out.drew).mono ?_
      rintro e6 w6 ⟨rfl, rfl⟩
      go_wp2_with fail
      refine tailL_mk (by (repeat' (first | (with_reducible exact Below.refl _ _) | (with_reducible assumption) | (with_reducible refine Below.drewN ?_ _) | (with_reducible refine Below.alloc ?_ ?_ _) | (with_reducible refine Below.drew ?_) | (with_reducible refine Below.setCell ?_ ?_ _) | (with_reducible refine Below.step (by assumption) ?_ ?_) | (with_reducible exact And.left (by assumption)) | go_size))) ?_
      refine tailZ_cons ?_
      go_wp2_with fail
      refine (extreme1_any x y (p1 k) high (w.heap.size + 1) _ (by simp; omega) (by go_simp)).mono ?_
      rintro e7 w7 ⟨rfl, hb7⟩
      have hb7' : Below wr.heap.size wr w7 := (Below.refl wr.heap.size wr).drew.trans hb7
      have hz7 := hb7'.size
      have HO7 := Lib.hid (owns_below hO.out hb7' (fun q hq => (hO.out.lt q hq).2))
      have HO71 := Lib.hid (owns_below hO1.out hb7' (fun q hq => (hO1.out.lt q hq).2))
      have HB7 := Lib.hid (hb7'.mono (show w.heap.size + 1 + 1 + 1 + 1 ≤ wr.heap.size by omega))
      clear hb7 hb7'
      go_wp2_with fail
      refine tailL_mk HB7.out ?_
      refine tailZ_cons ?_
      go_wp2_with fail
      have HB7a := Lib.hid (show Below (w.heap.size + 1 + 1 + 1 + 1) wr (w7.alloc (Obj.cells #[Value.int IntKind.i64 (endOf (x, y) (p1 k) high)] 3)) from Below.alloc HB7.out (by omega) _)
      refine tailL_mk HB7a.out ?_
      refine tailZ_cons ?_
      go_wp2_with (at_builtin; refine wpList_append_one _ rfl _ _ rfl (w.heap.size + 1 + 1 + 1 + 1) k w7.heap.size (.slice av k cv) _ (.int .i64 (endOf (x, y) (p1 k) high)) rfl (HO7.out.alloc _) rfl (by go_simp) rfl (by omega) (by simp; omega) ?_)
      intro v8 w8 hown8 hgr8 hat8 hb8
      obtain ⟨av2, cv2, rfl, _, _⟩ := owns_slice hown8
      have hb8' : Below (w.heap.size + 1 + 1 + 1 + 1) wr w8 := HB7a.out.trans hb8
      have hz8 := hb8'.size
      have ho81 := World.ownsRow.kept (HO71.out.alloc _) hgr8 (by
        rcases hA.out with h | h
        · rw [h]; rcases hq : (Value.slice av1 k cv1).ownBlock with _ | z
          · exact .inl rfl
          · exact .inr (by simp)
        · exact .inr (Ne.symm h))
      have hA8 : (Value.slice av2 (k + 1) cv2).ownBlock = none ∨ (Value.slice av2 (k + 1) cv2).ownBlock ≠ (Value.slice av1 k cv1).ownBlock := by
        rcases hat8 with h | h
        · rw [h]; exact hA.out
        · refine .inr (fun h2 => ?_)
          rw [h] at h2
          have := (hO1.out.lt _ h2.symm).2
          first | omega | (simp at this; omega)
      have ho8 : w8.ownsRow (w.heap.size + 1 + 1 + 1 + 1) 3 1 (.slice av2 (k + 1) cv2) (k + 1) (icells (extAt s p1 high (k + 1))) := by
        rw [ext_snoc, HX.out, icells_append]; exact hown8
      have HO8 := Lib.hid ho8
      have HO81 := Lib.hid ho81
      have HA8 := Lib.hid hA8
      have HB8 := Lib.hid hb8'
      have d0 : w8.cell? ⟨w.heap.size + 1 + 1 + 1, 0, none⟩ = some (.slice av k cv) := by { rw [cellB hb8' _ _ (by first | (simp; done) | (simp; omega) | omega)]; all_goals (first | assumption | go_simp) }; have d1 : w8.cell? ⟨w.heap.size + 1 + 1 + 1, 1, none⟩ = some (.slice av1 k cv1) := by { rw [cellB hb8' _ _ (by first | (simp; done) | (simp; omega) | omega)]; all_goals (first | assumption | go_simp) }; have d2 : w8.cell? ⟨w.heap.size + 1 + 1 + 1, 2, none⟩ = some (.bool g) := by { rw [cellB hb8' _ _ (by first | (simp; done) | (simp; omega) | omega)]; all_goals (first | assumption | go_simp) }; have e0 : w8.frozen? ⟨w.heap.size + 1 + 1 + 1, 0, none⟩ = false := by { rw [frozenB hb8' _ _ (by first | (simp; done) | (simp; omega) | omega)]; all_goals (first | assumption | go_simp) }; have e1 : w8.frozen? ⟨w.heap.size + 1 + 1 + 1, 1, none⟩ = false := by { rw [frozenB hb8' _ _ (by first | (simp; done) | (simp; omega) | omega)]; all_goals (first | assumption | go_simp) }
      clear hown8 hgr8 hat8 hb8 ho81 hA8 ho8 hb8'
      go_wp2_with fail
      refine tailL_mk HB8.out ?_
      refine tailZ_cons ?_
      go_wp2_with fail
      refine tailL_mk HB8.out ?_
      refine tailZ_last ?_
      go_wp2_with fail
      refine tailZ_end ?_
      have HO9wa := Lib.hid (ownsRow_setCell_below HO8.out (a := ⟨w.heap.size + 1 + 1 + 1, 0, none⟩) (by simp) (.slice av2 (k + 1) cv2))
      have HO91wa := Lib.hid (ownsRow_setCell_below HO81.out (a := ⟨w.heap.size + 1 + 1 + 1, 0, none⟩) (by simp) (.slice av2 (k + 1) cv2))
      have hb9 : Below (w.heap.size + 1 + 1 + 1) wr (w8.setCell ⟨w.heap.size + 1 + 1 + 1, 0, none⟩ (.slice av2 (k + 1) cv2)) := Below.setCell (HB8.out.mono (by omega)) (by simp) _
      have hz9 : w8.heap.size = (w8.setCell ⟨w.heap.size + 1 + 1 + 1, 0, none⟩ (.slice av2 (k + 1) cv2)).heap.size := by simp
      have x0 : (w8.setCell ⟨w.heap.size + 1 + 1 + 1, 0, none⟩ (.slice av2 (k + 1) cv2)).cell? ⟨w.heap.size + 1 + 1 + 1, 0, none⟩ = some (.slice av2 (k + 1) cv2) := by go_simp
      have x1 : (w8.setCell ⟨w.heap.size + 1 + 1 + 1, 0, none⟩ (.slice av2 (k + 1) cv2)).cell? ⟨w.heap.size + 1 + 1 + 1, 1, none⟩ = some (.slice av1 k cv1) := by go_simp
      have x2 : (w8.setCell ⟨w.heap.size + 1 + 1 + 1, 0, none⟩ (.slice av2 (k + 1) cv2)).cell? ⟨w.heap.size + 1 + 1 + 1, 2, none⟩ = some (.bool g) := by go_simp
      have y0 : (w8.setCell ⟨w.heap.size + 1 + 1 + 1, 0, none⟩ (.slice av2 (k + 1) cv2)).frozen? ⟨w.heap.size + 1 + 1 + 1, 0, none⟩ = false := by go_simp
      have y1 : (w8.setCell ⟨w.heap.size + 1 + 1 + 1, 0, none⟩ (.slice av2 (k + 1) cv2)).frozen? ⟨w.heap.size + 1 + 1 + 1, 1, none⟩ = false := by go_simp
      generalize w8.setCell ⟨w.heap.size + 1 + 1 + 1, 0, none⟩ (.slice av2 (k + 1) cv2) = wa at *
      have r0a : wa.cell? ⟨w.heap.size, 0, none⟩ = some (.slice (some ⟨b0, o0, none⟩) n c) := by { rw [cellB hb9 _ _ (by first | (simp; done) | (simp; omega) | omega)]; all_goals (first | assumption | go_simp) }; have r1a : wa.cell? ⟨w.heap.size, 1, none⟩ = some (.slice (some ⟨b1, o1, none⟩) n c1) := by { rw [cellB hb9 _ _ (by first | (simp; done) | (simp; omega) | omega)]; all_goals (first | assumption | go_simp) }; have r2a : wa.cell? ⟨w.heap.size + 1, 0, none⟩ = some (.bool high) := by { rw [cellB hb9 _ _ (by first | (simp; done) | (simp; omega) | omega)]; all_goals (first | assumption | go_simp) }; have t0a : wa.cell? ⟨w.heap.size + 1 + 1, 0, none⟩ = some (.slice none 0 0) := by { rw [cellB hb9 _ _ (by first | (simp; done) | (simp; omega) | omega)]; all_goals (first | assumption | go_simp) }; have t1a : wa.cell? ⟨w.heap.size + 1 + 1, 1, none⟩ = some (.slice none 0 0) := by { rw [cellB hb9 _ _ (by first | (simp; done) | (simp; omega) | omega)]; all_goals (first | assumption | go_simp) }; have t2a : wa.cell? ⟨w.heap.size + 1 + 1, 2, none⟩ = some (.bool false) := by { rw [cellB hb9 _ _ (by first | (simp; done) | (simp; omega) | omega)]; all_goals (first | assumption | go_simp) }; have k0a : wa.frozen? ⟨w.heap.size + 1 + 1, 0, none⟩ = false := by { rw [frozenB hb9 _ _ (by first | (simp; done) | (simp; omega) | omega)]; all_goals (first | assumption | go_simp) }; have k1a : wa.frozen? ⟨w.heap.size + 1 + 1, 1, none⟩ = false := by { rw [frozenB hb9 _ _ (by first | (simp; done) | (simp; omega) | omega)]; all_goals (first | assumption | go_simp) }; have k2a : wa.frozen? ⟨w.heap.size + 1 + 1, 2, none⟩ = false := by { rw [frozenB hb9 _ _ (by first | (simp; done) | (simp; omega) | omega)]; all_goals (first | assumption | go_simp) }; have cpa : wa.cell? ⟨b1, o1 + k * 2, none⟩ = some (.int .i64 p) := by { rw [cellB hb9 _ _ (by first | (simp; done) | (simp; omega) | omega)]; all_goals (first | assumption | go_simp) }; have cqa : wa.cell? ⟨b1, o1 + k * 2 + 1, none⟩ = some (.int .i64 q) := by { rw [cellB hb9 _ _ (by first | (simp; done) | (simp; omega) | omega)]; all_goals (first | assumption | go_simp) }
      have HBa := Lib.hid (HBW.out.trans (hb9.mono (by omega)))
      have HBl := Lib.hid (hB.out.trans hb9)
      have HA9 := Lib.hid HA8.out
      have lr2 : w.heap.size + 1 + 1 + 1 < wa.heap.size := by omega
      clear hb9 d0 d1 d2 e0 e1 cx cy cp cq c0 c1' c2 g0' g1' r0' r1' r2' t0' t1' t2' k0' k1' k2' hO hO1 hA HO7 HO71 HB7 HB7a HO8 HO81 HA8 HB8 hz7 hz8
      go_wp2_with fail
      refine wp_region_laterZ (B := w.heap.size + 1 + 1 + 1 + 1) [0, 1, 2, 3, 4, 5, 6, 7, 8, 9] [10, 11, 12, 13, 14, 15] 15 (by kernel_rfl) (by kernel_rfl) ?_; simp only [List.filterMap_cons, List.filterMap_nil, List.getElem?_cons_zero, List.getElem?_cons_succ]; repeat (show wpQuiet _ _ _ _ (_ :: _) _; go_big_quiet_step (fail))
      refine wpQuiet_nil ?_
      refine tailZ_cons ?_
      go_wp2_with fail
      refine (HP2.out k _ HBa.out.drew).mono ?_
      rintro e6 w6 ⟨rfl, rfl⟩
      go_wp2_with fail
      refine tailL_mk (by (repeat' (first | (with_reducible exact Below.refl _ _) | (with_reducible assumption) | (with_reducible refine Below.drewN ?_ _) | (with_reducible refine Below.alloc ?_ ?_ _) | (with_reducible refine Below.drew ?_) | (with_reducible refine Below.setCell ?_ ?_ _) | (with_reducible refine Below.step (by assumption) ?_ ?_) | (with_reducible exact And.left (by assumption)) | go_size))) ?_
      refine tailZ_cons ?_
      go_wp2_with fail
      refine (extreme1_any p q (p2 k) high (w.heap.size + 1) _ (by simp; omega) (by go_simp)).mono ?_
      rintro e7 w7 ⟨rfl, hb7⟩
      have hb7' : Below wa.heap.size wa w7 := (Below.refl wa.heap.size wa).drew.trans hb7
      have hz7 := hb7'.size
      have HO7 := Lib.hid (owns_below HO91wa.out hb7' (fun q hq => (HO91wa.out.lt q hq).2))
      have HO71 := Lib.hid (owns_below HO9wa.out hb7' (fun q hq => (HO9wa.out.lt q hq).2))
      have HB7 := Lib.hid (hb7'.mono (show w.heap.size + 1 + 1 + 1 + 1 ≤ wa.heap.size by omega))
      clear hb7 hb7'
      go_wp2_with fail
      refine tailL_mk HB7.out ?_
      refine tailZ_cons ?_
      go_wp2_with fail
      have HB7a := Lib.hid (show Below (w.heap.size + 1 + 1 + 1 + 1) wa (w7.alloc (Obj.cells #[Value.int IntKind.i64 (endOf (p, q) (p2 k) high)] 3)) from Below.alloc HB7.out (by omega) _)
      refine tailL_mk HB7a.out ?_
      refine tailZ_cons ?_
      go_wp2_with (at_builtin; refine wpList_append_one _ rfl _ _ rfl (w.heap.size + 1 + 1 + 1 + 1) k w7.heap.size (.slice av1 k cv1) _ (.int .i64 (endOf (p, q) (p2 k) high)) rfl (HO7.out.alloc _) rfl (by go_simp) rfl (by omega) (by simp; omega) ?_)
      intro v8 w8 hown8 hgr8 hat8 hb8
      obtain ⟨av3, cv3, rfl, _, _⟩ := owns_slice hown8
      have hb8' : Below (w.heap.size + 1 + 1 + 1 + 1) wa w8 := HB7a.out.trans hb8
      have hz8 := hb8'.size
      have ho81 := World.ownsRow.kept (HO71.out.alloc _) hgr8 (by
        rcases HA9.out with h | h
        · exact .inl h

        · exact .inr h)
      have hA8 : (Value.slice av2 (k + 1) cv2).ownBlock = none ∨ (Value.slice av2 (k + 1) cv2).ownBlock ≠ (Value.slice av3 (k + 1) cv3).ownBlock := by
        rcases hat8 with h | h
        · rw [h]; exact HA9.out
        · refine .inr (fun h2 => ?_)
          rw [h] at h2
          have := (HO9wa.out.lt _ h2).2
          first | omega | (simp at this; omega)
      have ho8 : w8.ownsRow (w.heap.size + 1 + 1 + 1 + 1) 3 1 (.slice av3 (k + 1) cv3) (k + 1) (icells (extAt e p2 high (k + 1))) := by
        rw [ext_snoc, HX1.out, icells_append]; exact hown8
      have HO8 := Lib.hid ho8
      have HO81 := Lib.hid ho81
      have HA8 := Lib.hid hA8
      have HB8 := Lib.hid hb8'
      have d0 : w8.cell? ⟨w.heap.size + 1 + 1 + 1, 0, none⟩ = some (.slice av2 (k + 1) cv2) := by { rw [cellB hb8' _ _ (by first | (simp; done) | (simp; omega) | omega)]; all_goals (first | assumption | go_simp) }; have d1 : w8.cell? ⟨w.heap.size + 1 + 1 + 1, 1, none⟩ = some (.slice av1 k cv1) := by { rw [cellB hb8' _ _ (by first | (simp; done) | (simp; omega) | omega)]; all_goals (first | assumption | go_simp) }; have d2 : w8.cell? ⟨w.heap.size + 1 + 1 + 1, 2, none⟩ = some (.bool g) := by { rw [cellB hb8' _ _ (by first | (simp; done) | (simp; omega) | omega)]; all_goals (first | assumption | go_simp) }; have e0 : w8.frozen? ⟨w.heap.size + 1 + 1 + 1, 0, none⟩ = false := by { rw [frozenB hb8' _ _ (by first | (simp; done) | (simp; omega) | omega)]; all_goals (first | assumption | go_simp) }; have e1 : w8.frozen? ⟨w.heap.size + 1 + 1 + 1, 1, none⟩ = false := by { rw [frozenB hb8' _ _ (by first | (simp; done) | (simp; omega) | omega)]; all_goals (first | assumption | go_simp) }
      clear hown8 hgr8 hat8 hb8 ho81 hA8 ho8 hb8'
      go_wp2_with fail
      refine tailL_mk HB8.out ?_
      refine tailZ_cons ?_
      go_wp2_with fail
      refine tailL_mk HB8.out ?_
      refine tailZ_last ?_
      go_wp2_with fail
      refine tailZ_end ?_
      have HO9wb := Lib.hid (ownsRow_setCell_below HO8.out (a := ⟨w.heap.size + 1 + 1 + 1, 1, none⟩) (by simp) (.slice av3 (k + 1) cv3))
      have HO91wb := Lib.hid (ownsRow_setCell_below HO81.out (a := ⟨w.heap.size + 1 + 1 + 1, 1, none⟩) (by simp) (.slice av3 (k + 1) cv3))
      have hb9 : Below (w.heap.size + 1 + 1 + 1) wa (w8.setCell ⟨w.heap.size + 1 + 1 + 1, 1, none⟩ (.slice av3 (k + 1) cv3)) := Below.setCell (HB8.out.mono (by omega)) (by simp) _
      have hz9 : w8.heap.size = (w8.setCell ⟨w.heap.size + 1 + 1 + 1, 1, none⟩ (.slice av3 (k + 1) cv3)).heap.size := by simp
      have z0 : (w8.setCell ⟨w.heap.size + 1 + 1 + 1, 1, none⟩ (.slice av3 (k + 1) cv3)).cell? ⟨w.heap.size + 1 + 1 + 1, 0, none⟩ = some (.slice av2 (k + 1) cv2) := by go_simp
      have z1 : (w8.setCell ⟨w.heap.size + 1 + 1 + 1, 1, none⟩ (.slice av3 (k + 1) cv3)).cell? ⟨w.heap.size + 1 + 1 + 1, 1, none⟩ = some (.slice av3 (k + 1) cv3) := by go_simp
      have z2 : (w8.setCell ⟨w.heap.size + 1 + 1 + 1, 1, none⟩ (.slice av3 (k + 1) cv3)).cell? ⟨w.heap.size + 1 + 1 + 1, 2, none⟩ = some (.bool g) := by go_simp
      have u0 : (w8.setCell ⟨w.heap.size + 1 + 1 + 1, 1, none⟩ (.slice av3 (k + 1) cv3)).frozen? ⟨w.heap.size + 1 + 1 + 1, 0, none⟩ = false := by go_simp
      have u1 : (w8.setCell ⟨w.heap.size + 1 + 1 + 1, 1, none⟩ (.slice av3 (k + 1) cv3)).frozen? ⟨w.heap.size + 1 + 1 + 1, 1, none⟩ = false := by go_simp
      generalize w8.setCell ⟨w.heap.size + 1 + 1 + 1, 1, none⟩ (.slice av3 (k + 1) cv3) = wb at *
      have HBe := Lib.hid (HBl.out.trans hb9)
      have lr3 : w.heap.size + 1 + 1 + 1 < wb.heap.size := by omega
      have HAe := Lib.hid HA8.out
      clear hb9 d0 d1 d2 e0 e1 HO7 HO71 HB7 HB7a HO8 HO81 HA8 HB8 hz7 hz8 x0 x1 x2 y0 y1 r0a r1a r2a t0a t1a t2a k0a k1a k2a cpa cqa
      go_wp2
      go_roundw
      case rel => exact ⟨k + 1, by go_num, by omega, ⟨av2, cv2, av3, cv3, z0, z1, HO91wb, HO9wb, HAe⟩, z2, u0, u1, lr3, HBe⟩
      case measure => simp [intOf]; omega
    · obtain rfl : k = n := by omega
      go_wp2
      refine bodyPost_ret (v := .agg #[.slice av k cv, .slice av1 k cv1, .bool g]) (by simp [results, Try.results80, go_sem, t0', t1', t2']) rfl ⟨av, cv, av1, cv1, rfl, ?_, ?_, ?_⟩
      · have := HBW.out
        (repeat' (first | (with_reducible exact Below.refl _ _) | (with_reducible assumption) | (with_reducible refine Below.drewN ?_ _) | (with_reducible refine Below.alloc ?_ ?_ _) | (with_reducible refine Below.drew ?_) | (with_reducible refine Below.setCell ?_ ?_ _) | (with_reducible refine Below.step (by assumption) ?_ ?_) | (with_reducible exact And.left (by assumption)) | go_size))
      · exact SlR.of_owns (ownsRow_setCell_below (ownsRow_setCell_below (ownsRow_setCell_below hO.out (a := ⟨w.heap.size + 1 + 1, 0, none⟩) (by simp) _) (a := ⟨w.heap.size + 1 + 1, 1, none⟩) (by simp) _) (a := ⟨w.heap.size + 1 + 1, 2, none⟩) (by simp) _)
      · exact SlR.of_owns (ownsRow_setCell_below (ownsRow_setCell_below (ownsRow_setCell_below hO1.out (a := ⟨w.heap.size + 1 + 1, 0, none⟩) (by simp) _) (a := ⟨w.heap.size + 1 + 1, 1, none⟩) (by simp) _) (a := ⟨w.heap.size + 1 + 1, 2, none⟩) (by simp) _)
end Go.Proofs.Ytbjgklifmillgaa

/- The span of a node. -/
namespace Go.Proofs.Ytbjgklifmillgaa
open Go.RowKit
set_option linter.unusedVariables false

/-- A node's voltage in the ladder of extreme capacitances: a numerator and a denominator. -/
def np1 (k : Nat) (i : Nat) : Bool := decide ((i : Int) < (k : Int))
def np2 (i : Nat) : Bool := false
def nodeNum (s e : List (Int × Int)) (n L k : Nat) (high : Bool) : Int :=
  (numsOf (extAt s (np1 k) high n) (extAt e np2 high n) n L).getD k 0
def nodeDen (s e : List (Int × Int)) (n L k : Nat) (high : Bool) : Int := dd (extAt s (np1 k) high n) (extAt e np2 high n) L L
def nodeFr (s e : List (Int × Int)) (n L k : Nat) (high : Bool) : Int × Int := low (nodeNum s e n L k high) (nodeDen s e n L k high)

end Go.Proofs.Ytbjgklifmillgaa

/- The span of a node: the exported function. -/
namespace Go.Proofs.Ytbjgklifmillgaa
open Go.RowKit
set_option linter.unusedVariables false

/-- The errors of a node's span. -/
def nodeErr (s e : List (Int × Int)) (node : Int) : Int := firstErr [rngErr s e, unl (wi node 0 (s.length : Int)) 6]
end Go.Proofs.Ytbjgklifmillgaa
