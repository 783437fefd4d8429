import Derived.Test.YtphgacledebolaaDist
import Derived.Test.YtphgacledebolaaMFr
import Derived.Test.YtphgacledebolaaMLaw
import Derived.Test.YtphgacledebolaaMSch
import Derived.Test.YtphgacledebolaaO3
import Derived.Test.YtphgacledebolaaSchedC
/- The reference's ladders of ends, and their distributions. -/
namespace Go.Proofs.Ytphgacledebolaa
open Go.RowKit
set_option linter.unusedVariables false

theorem pick_any (lo hi : Int) (x : Bool) (w : World) : Calls Try.prog 131 #[.agg #[.int .i64 lo, .int .i64 hi], .bool x] w fun e' w' => e' = .returned (.int .i64 (if x = true then hi else lo)) ∧ Below w.heap.size w w' := by
  cases x
  · go_enter Try.func131, Try.ntmps131
    go_wp2
    go_ret
    exact ⟨rfl, by (repeat' (first | (with_reducible exact Below.refl _ _) | (with_reducible assumption) | (with_reducible refine Below.drewN ?_ _) | (with_reducible refine Below.alloc ?_ ?_ _) | (with_reducible refine Below.drew ?_) | (with_reducible refine Below.setCell ?_ ?_ _) | (with_reducible refine Below.step (by assumption) ?_ ?_) | (with_reducible exact And.left (by assumption)) | go_size))⟩
  · go_enter Try.func131, Try.ntmps131
    go_wp2
    go_ret
    exact ⟨rfl, by (repeat' (first | (with_reducible exact Below.refl _ _) | (with_reducible assumption) | (with_reducible refine Below.drewN ?_ _) | (with_reducible refine Below.alloc ?_ ?_ _) | (with_reducible refine Below.drew ?_) | (with_reducible refine Below.setCell ?_ ?_ _) | (with_reducible refine Below.step (by assumption) ?_ ?_) | (with_reducible exact And.left (by assumption)) | go_size))⟩
/-- Which ends: with a gap, or with a node. -/
def eP (isGap : Bool) (k : Nat) : Nat → Bool := if isGap = true then gp1 k else np1 k
def eQ (isGap : Bool) (k : Nat) : Nat → Bool := if isGap = true then gp2 k else np2
/-- What the two slices are after some rounds. -/
def E2 (B : Nat) (w : World) (s e : List (Int × Int)) (isGap high : Bool) (k j : Nat) (v1 v2 : Value) : Prop := O3 w B v1 v2 (.slice none 0 0) j j 0 (extAt s (eP isGap k) high j) (extAt e (eQ isGap k) high j) []
set_option maxHeartbeats 1000000 in
set_option maxRecDepth 100000 in
theorem ends_any (s e : List (Int × Int)) (a a1 : Option Addr) (n c c1 L k : Nat) (g isGap high : Bool) (w : World) (hs : PairsR w a n s) (he : PairsR w a1 n e) (h0 : rngErr s e = 0) (hL : lastOf n g = L) (hk : k ≤ n) :
    Calls Try.prog 87 #[.agg #[.slice a n c, .slice a1 n c1, .bool g], .int .i64 k, .bool isGap, .bool high] w fun e' w' => ∃ a' c', e' = .returned (.slice a' (n + 1) c') ∧ Below w.heap.size w w' ∧ ∃ ys, SlN w.heap.size w' a' (n + 1) 4 ys ∧
      ∀ j, j < n + 1 → EntL (fun b => b < w'.heap.size) w' ys j (((nu (extAt s (eP isGap k) high n) (extAt e (eQ isGap k) high n) L j : Int) : Rat) / ((dd (extAt s (eP isGap k) high n) (extAt e (eQ isGap k) high n) L L : Int) : Rat)) := by
  obtain ⟨hn0, _, hn6, _⟩ := rngErr_zero h0
  have hsl := hs.len
  rw [hsl] at hn0 hn6
  have hlad := rng_ext (eP isGap k) (eQ isGap k) high h0 hsl hL
  have HLD := Lib.hid hlad
  obtain ⟨bs, os, rfl, hbs, hcs⟩ := hs.addr hn0
  obtain ⟨be, oe, rfl, hbe, hce⟩ := he.addr hn0
  have HCS := Lib.hid hcs
  have HCE := Lib.hid hce
  clear hs he h0 hL hlad hsl hcs hce
  go_enter Try.func87, Try.ntmps87
  go_wp2
  generalize hW : World.alloc _ _ = w5 at *
  have q0 : w5.cell? ⟨w.heap.size, 0, none⟩ = some (.slice (some ⟨bs, os, none⟩) n c) := by { rw [← hW]; clear hW; go_simp }
  have q1 : w5.cell? ⟨w.heap.size, 1, none⟩ = some (.slice (some ⟨be, oe, none⟩) n c1) := by { rw [← hW]; clear hW; go_simp }
  have q2 : w5.cell? ⟨w.heap.size, 2, none⟩ = some (.bool g) := by { rw [← hW]; clear hW; go_simp }
  have hb5 : Below w.heap.size w w5 := by rw [← hW]; (repeat' (first | (with_reducible exact Below.refl _ _) | (with_reducible assumption) | (with_reducible refine Below.drewN ?_ _) | (with_reducible refine Below.alloc ?_ ?_ _) | (with_reducible refine Below.drew ?_) | (with_reducible refine Below.setCell ?_ ?_ _) | (with_reducible refine Below.step (by assumption) ?_ ?_) | (with_reducible exact And.left (by assumption)) | go_size))
  obtain ⟨B, hB⟩ : ∃ B, B = w5.heap.size := ⟨_, rfl⟩
  have lw : w.heap.size < B := by rw [hB, ← hW]; simp
  have HB5 := Lib.hid hb5
  have HBB := Lib.hid hB
  clear hW hb5 hB
  go_loopw [9, 10, 11] (fun v1 v2 i wr => ∃ (j : Nat) (va : Option Addr) (ca : Nat) (vb : Option Addr) (cb : Nat), i = .int .i64 j ∧ j ≤ n ∧ v1 = .slice va j ca ∧ v2 = .slice vb j cb ∧ Hid (E2 B wr s e isGap high k j (.slice va j ca) (.slice vb j cb)) ∧ Hid (Below B w5 wr)) (fun _ _ i _ => n - (intOf i).toNat)
  case atStart => exact ⟨0, none, 0, none, 0, rfl, Nat.zero_le _, rfl, rfl, Lib.hid (O3.nil _ _), Lib.hid (Below.refl _ _)⟩
  case round =>
    obtain ⟨j, va, ca, vb, cb, rfl, hj, rfl, rfl, hO, hB⟩ := hrel
    obtain ⟨w1, rfl⟩ : ∃ w', w' = wr := ⟨wr, rfl⟩
    have hzB : B ≤ w1.heap.size := by have := hB.out.size; have := HBB.out; omega
    have r0 : w1.cell? ⟨w.heap.size, 0, none⟩ = some (.slice (some ⟨bs, os, none⟩) n c) := by rw [cellB hB.out _ _ lw]; exact q0
    have r1 : w1.cell? ⟨w.heap.size, 1, none⟩ = some (.slice (some ⟨be, oe, none⟩) n c1) := by rw [cellB hB.out _ _ lw]; exact q1
    have r2 : w1.cell? ⟨w.heap.size, 2, none⟩ = some (.bool g) := by rw [cellB hB.out _ _ lw]; exact q2
    have lB0 : bs < B := by omega
    have lB1 : be < B := by omega
    have lw1 : w.heap.size < w1.heap.size := by omega
    have HB1 := Lib.hid hB.out
    have HO1 := Lib.hid hO.out
    clear hO hB q0 q1 q2
    rcases Nat.lt_or_ge j n with hlt | hge
    · obtain ⟨x, hx⟩ : ∃ x, x = (s.getD j (0, 0)).1 := ⟨_, rfl⟩
      obtain ⟨y, hy⟩ : ∃ y, y = (s.getD j (0, 0)).2 := ⟨_, rfl⟩
      obtain ⟨p, hp⟩ : ∃ p, p = (e.getD j (0, 0)).1 := ⟨_, rfl⟩
      obtain ⟨q, hq⟩ : ∃ q, q = (e.getD j (0, 0)).2 := ⟨_, rfl⟩
      have cx : w1.cell? ⟨bs, os + j * 2, none⟩ = some (.int .i64 x) := by rw [cellB HB1.out _ _ lB0, cellB HB5.out _ _ hbs, hx]; exact (HCS.out j hlt).1
      have cy : w1.cell? ⟨bs, os + j * 2 + 1, none⟩ = some (.int .i64 y) := by rw [cellB HB1.out _ _ lB0, cellB HB5.out _ _ hbs, hy]; exact (HCS.out j hlt).2
      have cp : w1.cell? ⟨be, oe + j * 2, none⟩ = some (.int .i64 p) := by rw [cellB HB1.out _ _ lB1, cellB HB5.out _ _ hbe, hp]; exact (HCE.out j hlt).1
      have cq : w1.cell? ⟨be, oe + j * 2 + 1, none⟩ = some (.int .i64 q) := by rw [cellB HB1.out _ _ lB1, cellB HB5.out _ _ hbe, hq]; exact (HCE.out j hlt).2
      obtain ⟨b1, hb1⟩ : ∃ b, b = eP isGap k j := ⟨_, rfl⟩
      obtain ⟨b2, hb2⟩ : ∃ b, b = eQ isGap k j := ⟨_, rfl⟩
      obtain ⟨x1, hx1⟩ : ∃ b, b = (b1 == high) := ⟨_, rfl⟩
      obtain ⟨x2, hx2⟩ : ∃ b, b = (b2 == high) := ⟨_, rfl⟩
      obtain ⟨V1, hV1⟩ : ∃ v, v = (if x1 = true then y else x) := ⟨_, rfl⟩
      obtain ⟨V2, hV2⟩ : ∃ v, v = (if x2 = true then q else p) := ⟨_, rfl⟩
      have HE1 := Lib.hid (show endOf (s.getD j (0, 0)) (eP isGap k j) high = V1 by
        rw [hV1, hx1, ← hb1, hx, hy]; unfold endOf; cases b1 <;> cases high <;> rfl)
      have HE2 := Lib.hid (show endOf (e.getD j (0, 0)) (eQ isGap k j) high = V2 by
        rw [hV2, hx2, ← hb2, hp, hq]; unfold endOf; cases b2 <;> cases high <;> rfl)
      have HP1 := Lib.hid (fun w' => pick_any x y x1 w')
      have HP2 := Lib.hid (fun w' => pick_any p q x2 w')
      rw [← hV1] at HP1
      rw [← hV2] at HP2
      have e1 : (b1 == high) = x1 := hx1.symm
      have e2 : (b2 == high) = x2 := hx2.symm
      have j0 : (0 : Int) ≤ (j : Int) := by omega
      have j1 : (j : Int) < (n : Int) := by omega
      clear hx hy hp hq hx1 hx2 hV1 hV2
      cases isGap
      · have e3 : decide ((j : Int) < (k : Int)) = b1 := hb1.symm
        have e3' : decide (j < k) = b1 := by rw [← e3]; simp
        obtain rfl : b2 = false := hb2
        clear hb1
        go_wp2_with fail
        refine wp_region_laterB (B := B) [0, 1, 2, 3, 4, 5, 6, 7, 8, 12, 13, 14, 15, 16, 17, 18, 19, 20] [9, 10, 11, 21, 22, 23, 24, 25] (by kernel_rfl) (by kernel_rfl) ?_; simp only [List.filterMap_cons, List.filterMap_nil, List.getElem?_cons_zero, List.getElem?_cons_succ]; repeat (show wpQuiet _ _ _ _ (_ :: _) _; go_big_quiet_step (fail))
        refine wpQuiet_nil ?_
        refine wpTail_cons ?_
        go_wp2_with fail
        refine (HP1.out _).mono ?_
        rintro e6 w6 ⟨rfl, hb6⟩
        have hz6 := hb6.size
        simp only [World.size_drew] at hz6
        have hb6' : Below w1.heap.size w1 w6 := (Below.refl w1.heap.size w1).drew.trans hb6
        have HO6 := Lib.hid (O3.below HO1.out hb6')
        have HN6 := Lib.hid (hb6'.mono hzB)
        clear hb6 hb6'
        go_wp2_with fail
        refine tailL_mk HN6.out ?_
        refine wpTail_cons ?_
        go_wp2_with fail
        have HN6a := Lib.hid (show Below B w1 (w6.alloc (Obj.cells #[Value.int IntKind.i64 V1] 3)) from HN6.out.alloc (by omega) _)
        refine tailL_mk HN6a.out ?_
        refine wpTail_cons ?_
        go_wp2_with (at_builtin; refine wpList_append_one _ rfl _ _ rfl B j w6.heap.size (.slice va j ca) _ (.int .i64 V1) rfl (HO6.out.o1.alloc _) rfl (by go_simp) rfl (by omega) (by simp; omega) ?_)
        intro v7 w7 hown7 hgr7 hat7 hb7
        obtain ⟨va2, ca2, rfl, _, _⟩ := owns_slice hown7
        have hbl : Below w6.heap.size w6 (w6.alloc (Obj.cells #[Value.int IntKind.i64 V1] 3)) := by (repeat' (first | (with_reducible exact Below.refl _ _) | (with_reducible assumption) | (with_reducible refine Below.drewN ?_ _) | (with_reducible refine Below.alloc ?_ ?_ _) | (with_reducible refine Below.drew ?_) | (with_reducible refine Below.setCell ?_ ?_ _) | (with_reducible refine Below.step (by assumption) ?_ ?_) | (with_reducible exact And.left (by assumption)) | go_size))
        have HO7 := Lib.hid (((O3.below HO6.out hbl).step hown7 hgr7 (by simpa using hat7)).rot)
        have HN7 := Lib.hid (HN6a.out.trans hb7)
        have hz7 : w1.heap.size ≤ w7.heap.size := by have := hgr7.size; simp at this; omega
        clear hown7 hgr7 hat7 hb7 hbl
        go_wp2_with fail
        refine tailL_mk HN7.out ?_
        refine wpTail_cons ?_
        go_wp2_with fail
        refine (HP2.out _).mono ?_
        rintro e8 w8 ⟨rfl, hb8⟩
        have hz8 := hb8.size
        have HO8 := Lib.hid (O3.below HO7.out hb8)
        have HN8 := Lib.hid (HN7.out.trans (hb8.mono (by omega)))
        clear hb8
        go_wp2_with fail
        refine tailL_mk HN8.out ?_
        refine wpTail_cons ?_
        go_wp2_with fail
        have HN8a := Lib.hid (show Below B w1 (w8.alloc (Obj.cells #[Value.int IntKind.i64 V2] 3)) from HN8.out.alloc (by omega) _)
        refine tailL_mk HN8a.out ?_
        refine wpTail_cons ?_
        go_wp2_with (at_builtin; refine wpList_append_one _ rfl _ _ rfl B j w8.heap.size (.slice vb j cb) _ (.int .i64 V2) rfl (HO8.out.o1.alloc _) rfl (by go_simp) rfl (by omega) (by simp; omega) ?_)
        intro v9 w9 hown9 hgr9 hat9 hb9
        obtain ⟨vb2, cb2, rfl, _, _⟩ := owns_slice hown9
        have hbl : Below w8.heap.size w8 (w8.alloc (Obj.cells #[Value.int IntKind.i64 V2] 3)) := by (repeat' (first | (with_reducible exact Below.refl _ _) | (with_reducible assumption) | (with_reducible refine Below.drewN ?_ _) | (with_reducible refine Below.alloc ?_ ?_ _) | (with_reducible refine Below.drew ?_) | (with_reducible refine Below.setCell ?_ ?_ _) | (with_reducible refine Below.step (by assumption) ?_ ?_) | (with_reducible exact And.left (by assumption)) | go_size))
        have HO9 := Lib.hid ((((O3.below HO8.out hbl).step hown9 hgr9 (by simpa using hat9)).rot).rot)
        rw [← HE1.out, ← HE2.out, ← ext_snoc, ← ext_snoc] at HO9
        have HN9 := Lib.hid (HN8a.out.trans hb9)
        clear hown9 hgr9 hat9 hb9 hbl
        go_wp2_with fail
        refine tailL_mk HN9.out ?_
        refine wpTail_cons ?_
        go_wp2_with fail
        refine tailL_mk HN9.out ?_
        refine wpTail_cons ?_
        go_wp2_with fail
        refine tailL_mk HN9.out ?_
        refine wpTail_nil ?_
        have HBN := Lib.hid (HB1.out.trans HN9.out)
        go_wp2
        go_roundw
        case rel => exact ⟨j + 1, va2, ca2, vb2, cb2, by go_num, by omega, rfl, rfl, HO9, HBN⟩
        case measure => simp [intOf]; omega
      · have e3 : ((j : Int) != (k : Int)) = b1 := hb1.symm
        have e4 : decide ((k : Int) < (j : Int) + 1) = b2 := by
          rw [hb2]; unfold eQ; simp only [if_true]; unfold gp2
          have : ((k : Int) < (j : Int) + 1) ↔ ((k : Int) ≤ (j : Int)) := by omega
          simp [this]
        clear hb1 hb2
        go_wp2_with fail
        refine wp_region_laterB (B := B) [0, 1, 2, 3, 4, 5, 6, 7, 8, 12, 13, 14, 15, 16, 17, 18, 19, 20] [9, 10, 11, 21, 22, 23, 24, 25] (by kernel_rfl) (by kernel_rfl) ?_; simp only [List.filterMap_cons, List.filterMap_nil, List.getElem?_cons_zero, List.getElem?_cons_succ]; repeat (show wpQuiet _ _ _ _ (_ :: _) _; go_big_quiet_step (fail))
        refine wpQuiet_nil ?_
        refine wpTail_cons ?_
        go_wp2_with fail
        refine (HP1.out _).mono ?_
        rintro e6 w6 ⟨rfl, hb6⟩
        have hz6 := hb6.size
        simp only [World.size_drew] at hz6
        have hb6' : Below w1.heap.size w1 w6 := (Below.refl w1.heap.size w1).drew.trans hb6
        have HO6 := Lib.hid (O3.below HO1.out hb6')
        have HN6 := Lib.hid (hb6'.mono hzB)
        clear hb6 hb6'
        go_wp2_with fail
        refine tailL_mk HN6.out ?_
        refine wpTail_cons ?_
        go_wp2_with fail
        have HN6a := Lib.hid (show Below B w1 (w6.alloc (Obj.cells #[Value.int IntKind.i64 V1] 3)) from HN6.out.alloc (by omega) _)
        refine tailL_mk HN6a.out ?_
        refine wpTail_cons ?_
        go_wp2_with (at_builtin; refine wpList_append_one _ rfl _ _ rfl B j w6.heap.size (.slice va j ca) _ (.int .i64 V1) rfl (HO6.out.o1.alloc _) rfl (by go_simp) rfl (by omega) (by simp; omega) ?_)
        intro v7 w7 hown7 hgr7 hat7 hb7
        obtain ⟨va2, ca2, rfl, _, _⟩ := owns_slice hown7
        have hbl : Below w6.heap.size w6 (w6.alloc (Obj.cells #[Value.int IntKind.i64 V1] 3)) := by (repeat' (first | (with_reducible exact Below.refl _ _) | (with_reducible assumption) | (with_reducible refine Below.drewN ?_ _) | (with_reducible refine Below.alloc ?_ ?_ _) | (with_reducible refine Below.drew ?_) | (with_reducible refine Below.setCell ?_ ?_ _) | (with_reducible refine Below.step (by assumption) ?_ ?_) | (with_reducible exact And.left (by assumption)) | go_size))
        have HO7 := Lib.hid (((O3.below HO6.out hbl).step hown7 hgr7 (by simpa using hat7)).rot)
        have HN7 := Lib.hid (HN6a.out.trans hb7)
        have hz7 : w1.heap.size ≤ w7.heap.size := by have := hgr7.size; simp at this; omega
        clear hown7 hgr7 hat7 hb7 hbl
        go_wp2_with fail
        refine tailL_mk HN7.out ?_
        refine wpTail_cons ?_
        go_wp2_with fail
        refine (HP2.out _).mono ?_
        rintro e8 w8 ⟨rfl, hb8⟩
        have hz8 := hb8.size
        have HO8 := Lib.hid (O3.below HO7.out hb8)
        have HN8 := Lib.hid (HN7.out.trans (hb8.mono (by omega)))
        clear hb8
        go_wp2_with fail
        refine tailL_mk HN8.out ?_
        refine wpTail_cons ?_
        go_wp2_with fail
        have HN8a := Lib.hid (show Below B w1 (w8.alloc (Obj.cells #[Value.int IntKind.i64 V2] 3)) from HN8.out.alloc (by omega) _)
        refine tailL_mk HN8a.out ?_
        refine wpTail_cons ?_
        go_wp2_with (at_builtin; refine wpList_append_one _ rfl _ _ rfl B j w8.heap.size (.slice vb j cb) _ (.int .i64 V2) rfl (HO8.out.o1.alloc _) rfl (by go_simp) rfl (by omega) (by simp; omega) ?_)
        intro v9 w9 hown9 hgr9 hat9 hb9
        obtain ⟨vb2, cb2, rfl, _, _⟩ := owns_slice hown9
        have hbl : Below w8.heap.size w8 (w8.alloc (Obj.cells #[Value.int IntKind.i64 V2] 3)) := by (repeat' (first | (with_reducible exact Below.refl _ _) | (with_reducible assumption) | (with_reducible refine Below.drewN ?_ _) | (with_reducible refine Below.alloc ?_ ?_ _) | (with_reducible refine Below.drew ?_) | (with_reducible refine Below.setCell ?_ ?_ _) | (with_reducible refine Below.step (by assumption) ?_ ?_) | (with_reducible exact And.left (by assumption)) | go_size))
        have HO9 := Lib.hid ((((O3.below HO8.out hbl).step hown9 hgr9 (by simpa using hat9)).rot).rot)
        rw [← HE1.out, ← HE2.out, ← ext_snoc, ← ext_snoc] at HO9
        have HN9 := Lib.hid (HN8a.out.trans hb9)
        clear hown9 hgr9 hat9 hb9 hbl
        go_wp2_with fail
        refine tailL_mk HN9.out ?_
        refine wpTail_cons ?_
        go_wp2_with fail
        refine tailL_mk HN9.out ?_
        refine wpTail_cons ?_
        go_wp2_with fail
        refine tailL_mk HN9.out ?_
        refine wpTail_nil ?_
        have HBN := Lib.hid (HB1.out.trans HN9.out)
        go_wp2
        go_roundw
        case rel => exact ⟨j + 1, va2, ca2, vb2, cb2, by go_num, by omega, rfl, rfl, HO9, HBN⟩
        case measure => simp [intOf]; omega
    · obtain rfl : j = n := by omega
      have HDI := Lib.hid (dist_any _ _ va vb j ca cb L g w1 (SlR.of_owns HO1.out.o1) (SlR.of_owns HO1.out.o2) HLD.out)
      have HBW := Lib.hid (HB5.out.trans (HB1.out.mono (by omega)))
      go_wp2_with fail
      refine HDI.out.mono ?_
      rintro e6 w6 ⟨a', c', rfl, hb6, ys, h1, h2⟩
      have HPP := Lib.hid (And.intro h1 h2)
      have HB6 := Lib.hid (HBW.out.trans (hb6.mono (by omega)))
      clear h1 h2 hb6 HDI
      go_wp2
      go_ret
      exact ⟨a', c', rfl, HB6.out, ys, HPP.out.1.mono (by omega), HPP.out.2⟩
end Go.Proofs.Ytphgacledebolaa

/- The reference's spans of nodes and gaps. -/
namespace Go.Proofs.Ytphgacledebolaa
open Go.RowKit
set_option linter.unusedVariables false

def two (x y : Rat) (k : Nat) : Rat := if k = 0 then x else y
theorem two_any (x y : Rat) : (fqs (two x y) 2).any (fun f => !smallF f) = !(smallQ x && smallQ y) := by
  rw [fqs_any]
  have : List.range 2 = [0, 1] := rfl
  rw [this]
  simp [two]
/-- What a span is in the result. -/
def spanV (x y : Rat) : Value := if (smallQ x && smallQ y) = true then .tuple #[.agg #[.int .i64 x.num, .int .i64 (x.den : Int), .int .i64 y.num, .int .i64 (y.den : Int)], .bool true] else .tuple #[.agg #[.int .i64 0, .int .i64 0, .int .i64 0, .int .i64 0], .bool false]
set_option maxHeartbeats 1000000 in
set_option maxRecDepth 100000 in
theorem rspan_any (p : Nat → Prop) (v1 v2 : Value) (x y : Rat) (w : World) (h1 : RatioR p w v1 x) (h2 : RatioR p w v2 y) :
    Calls Try.prog 86 #[v1, v2] w fun e' w' => e' = .returned (spanV x y) ∧ Below w.heap.size w w' := by
  have H1 := Lib.hid h1.here
  have H2 := Lib.hid h2.here
  obtain ⟨s, a, n, c, t, a2, n2, c2, rfl, _, _⟩ := h1
  obtain ⟨s', a', n', c', t', a2', n2', c2', rfl, _, _⟩ := h2
  have HF := Lib.hid (fun (v : World) (hv : Below w.heap.size w v) (b : Nat) (cp : Nat) (hs : SlR v (some ⟨b, 0, none⟩) 2 4 [.int .i64 s, .slice a n c, .int .i64 t, .slice a2 n2 c2, .int .i64 s', .slice a' n' c', .int .i64 t', .slice a2' n2' c2']) =>
    rfracs_any (two x y) _ (some ⟨b, 0, none⟩) 2 cp v hs (fun k hk => by
      have : k = 0 ∨ k = 1 := by omega
      rcases this with rfl | rfl
      · exact ⟨s, a, n, c, t, a2, n2, c2, rfl, rfl, rfl, rfl, (H1.out.below hv).mono (fun b hb => Nat.lt_of_lt_of_le hb.2 hv.size)⟩
      · exact ⟨s', a', n', c', t', a2', n2', c2', rfl, rfl, rfl, rfl, (H2.out.below hv).mono (fun b hb => Nat.lt_of_lt_of_le hb.2 hv.size)⟩) (by omega))
  rw [two_any] at HF
  clear H1 H2
  obtain ⟨G, hG⟩ : ∃ g, g = (smallQ x && smallQ y) := ⟨_, rfl⟩
  rw [← hG] at HF
  have HG := Lib.hid hG
  clear hG
  go_enter Try.func86, Try.ntmps86
  go_wp2_with fail
  generalize hW : World.alloc _ _ = w5 at *
  have hlit : SlR w5 (some ⟨w.heap.size + 1 + 1 + 1, 0, none⟩) 2 4 [.int .i64 s, .slice a n c, .int .i64 t, .slice a2 n2 c2, .int .i64 s', .slice a' n' c', .int .i64 t', .slice a2' n2' c2'] := by
    rw [← hW]
    exact SlR.lit _ _ _ _ _ 2 4 (by rfl) (by simp) rfl (by omega)
  have hb5 : Below w.heap.size w w5 := by rw [← hW]; (repeat' (first | (with_reducible exact Below.refl _ _) | (with_reducible assumption) | (with_reducible refine Below.drewN ?_ _) | (with_reducible refine Below.alloc ?_ ?_ _) | (with_reducible refine Below.drew ?_) | (with_reducible refine Below.setCell ?_ ?_ _) | (with_reducible refine Below.step (by assumption) ?_ ?_) | (with_reducible exact And.left (by assumption)) | go_size))
  have r0 : w5.cell? ⟨w.heap.size + 1 + 1, 0, none⟩ = some (.int .i64 0) := by { rw [← hW]; clear hW; go_simp }
  have r1 : w5.cell? ⟨w.heap.size + 1 + 1, 1, none⟩ = some (.int .i64 0) := by { rw [← hW]; clear hW; go_simp }
  have r2 : w5.cell? ⟨w.heap.size + 1 + 1, 2, none⟩ = some (.int .i64 0) := by { rw [← hW]; clear hW; go_simp }
  have r3 : w5.cell? ⟨w.heap.size + 1 + 1, 3, none⟩ = some (.int .i64 0) := by { rw [← hW]; clear hW; go_simp }
  have f0 : w5.frozen? ⟨w.heap.size + 1 + 1, 0, none⟩ = false := by { rw [← hW]; clear hW; go_simp }
  have f1 : w5.frozen? ⟨w.heap.size + 1 + 1, 1, none⟩ = false := by { rw [← hW]; clear hW; go_simp }
  have f2 : w5.frozen? ⟨w.heap.size + 1 + 1, 2, none⟩ = false := by { rw [← hW]; clear hW; go_simp }
  have f3 : w5.frozen? ⟨w.heap.size + 1 + 1, 3, none⟩ = false := by { rw [← hW]; clear hW; go_simp }
  have hz5 : w.heap.size + 1 + 1 < w5.heap.size := by rw [← hW]; simp
  have HFF := Lib.hid (HF.out w5 hb5 _ 2 hlit)
  have HB5 := Lib.hid hb5
  clear hW HF hlit hb5
  refine HFF.out.mono ?_
  rintro e6 w6 ⟨hb6, hp⟩
  have HP := Lib.hid hp
  have hz6 := hb6.size
  have r0' : w6.cell? ⟨w.heap.size + 1 + 1, 0, none⟩ = some (.int .i64 0) := by { rw [cellB hb6 _ _ (by first | (simp; done) | (simp; omega) | omega)]; all_goals (first | assumption | go_simp) }; have r1' : w6.cell? ⟨w.heap.size + 1 + 1, 1, none⟩ = some (.int .i64 0) := by { rw [cellB hb6 _ _ (by first | (simp; done) | (simp; omega) | omega)]; all_goals (first | assumption | go_simp) }; have r2' : w6.cell? ⟨w.heap.size + 1 + 1, 2, none⟩ = some (.int .i64 0) := by { rw [cellB hb6 _ _ (by first | (simp; done) | (simp; omega) | omega)]; all_goals (first | assumption | go_simp) }; have r3' : w6.cell? ⟨w.heap.size + 1 + 1, 3, none⟩ = some (.int .i64 0) := by { rw [cellB hb6 _ _ (by first | (simp; done) | (simp; omega) | omega)]; all_goals (first | assumption | go_simp) }; have f0' : w6.frozen? ⟨w.heap.size + 1 + 1, 0, none⟩ = false := by { rw [frozenB hb6 _ _ (by first | (simp; done) | (simp; omega) | omega)]; all_goals (first | assumption | go_simp) }; have f1' : w6.frozen? ⟨w.heap.size + 1 + 1, 1, none⟩ = false := by { rw [frozenB hb6 _ _ (by first | (simp; done) | (simp; omega) | omega)]; all_goals (first | assumption | go_simp) }; have f2' : w6.frozen? ⟨w.heap.size + 1 + 1, 2, none⟩ = false := by { rw [frozenB hb6 _ _ (by first | (simp; done) | (simp; omega) | omega)]; all_goals (first | assumption | go_simp) }; have f3' : w6.frozen? ⟨w.heap.size + 1 + 1, 3, none⟩ = false := by { rw [frozenB hb6 _ _ (by first | (simp; done) | (simp; omega) | omega)]; all_goals (first | assumption | go_simp) }; have lX : w.heap.size + 1 + 1 < w6.heap.size := by { omega }
  have HB6 := Lib.hid (HB5.out.trans (hb6.mono HB5.out.size))
  clear hb6 hp HFF r0 r1 r2 r3 f0 f1 f2 f3
  rcases HP.out with ⟨hbad, rfl⟩ | ⟨hgood, a8, c8, rfl, hw⟩
  · have HS := Lib.hid (show spanV x y = .tuple #[.agg #[.int .i64 0, .int .i64 0, .int .i64 0, .int .i64 0], .bool false] by
      unfold spanV; rw [← HG.out, if_neg]; simpa using hbad)
    clear hbad HP
    go_wp2
    refine bodyPost_ret (v := .tuple #[.agg #[.int .i64 0, .int .i64 0, .int .i64 0, .int .i64 0], .bool false]) (by simp [results, Try.results86, go_sem, *]) rfl ⟨by rw [HS.out], ?_⟩
    have := HB6.out
    (repeat' (first | (with_reducible exact Below.refl _ _) | (with_reducible assumption) | (with_reducible refine Below.drewN ?_ _) | (with_reducible refine Below.alloc ?_ ?_ _) | (with_reducible refine Below.drew ?_) | (with_reducible refine Below.setCell ?_ ?_ _) | (with_reducible refine Below.step (by assumption) ?_ ?_) | (with_reducible exact And.left (by assumption)) | go_size))
  · have HS := Lib.hid (show spanV x y = .tuple #[.agg #[.int .i64 x.num, .int .i64 (x.den : Int), .int .i64 y.num, .int .i64 (y.den : Int)], .bool true] by
      unfold spanV; rw [← HG.out, if_pos]; simpa using hgood)
    obtain ⟨b8, o8, rfl, hb8, hc8⟩ := hw.addr (by omega)
    have c0 := (hc8 0 (by omega)).1
    have c1 := (hc8 0 (by omega)).2
    have c2 := (hc8 1 (by omega)).1
    have c3 := (hc8 1 (by omega)).2
    rw [fqs_get _ _ _ (by omega)] at c0 c1 c2 c3
    simp only [fq, two, if_true, Nat.zero_mul, Nat.add_zero, Nat.one_mul, show ((1 : Nat) = 0) = False by simp, if_false] at c0 c1 c2 c3
    clear hgood HP hw hc8
    generalize x.num = xn at *
    generalize (x.den : Int) = xd at *
    generalize y.num = yn at *
    generalize (y.den : Int) = yd at *
    go_wp2
    refine wp_region_laterY (B := w6.heap.size) [0, 1, 2, 3, 4, 5, 6] [] [7, 8] (by kernel_rfl) (by kernel_rfl) ?_; simp only [List.filterMap_cons, List.filterMap_nil, List.getElem?_cons_zero, List.getElem?_cons_succ]; repeat (show wpQuiet _ _ _ _ (_ :: _) _; go_big_quiet_step (fail))
    refine wpQuiet_nil ?_
    refine tailY_ends ?_
    refine ends_cons ?_
    go_wp2_with fail
    refine tailZ_end ?_
    refine ends_cons ?_
    go_wp2_with fail
    refine tailZ_end ?_
    refine ends_nil ?_
    go_wp2
    refine bodyPost_ret (v := .tuple #[.agg #[.int .i64 xn, .int .i64 xd, .int .i64 yn, .int .i64 yd], .bool true]) (by simp [results, Try.results86, go_sem, *]) rfl ⟨by rw [HS.out], ?_⟩
    have := HB6.out
    (repeat' (first | (with_reducible exact Below.refl _ _) | (with_reducible assumption) | (with_reducible refine Below.drewN ?_ _) | (with_reducible refine Below.alloc ?_ ?_ _) | (with_reducible refine Below.drew ?_) | (with_reducible refine Below.setCell ?_ ?_ _) | (with_reducible refine Below.step (by assumption) ?_ ?_) | (with_reducible exact And.left (by assumption)) | go_size))
theorem spanV_parts (x y : Rat) : ∃ (z0 z1 z2 z3 : Int) (G : Bool), spanV x y = .tuple #[.agg #[.int .i64 z0, .int .i64 z1, .int .i64 z2, .int .i64 z3], .bool G] := by
  unfold spanV
  split
  · exact ⟨_, _, _, _, _, rfl⟩
  · exact ⟨_, _, _, _, _, rfl⟩
/-- A node's voltage as a quotient. -/
def vq (s e : List Int) (L j : Nat) : Rat := ((nu s e L j : Int) : Rat) / ((dd s e L L : Int) : Rat)
theorem Lad.szv {s e : List Int} {g : Bool} {n L : Nat} (h : Lad s e g n L) {j : Nat} (hj : j ≤ n) : Sz 2 (vq s e L j) := by
  have hb := nums_bd s e n L h.bs h.be (by have := h.Ln; have := h.ls; omega) (nu s e L j) (by
    rw [← nums_nu s e n L j hj]
    exact getD_mem (by simp [numsOf]; omega))
  have hd := (dd_bd6 s e L (fun x hx => by have := h.bs x hx; omega) h.be L (by have := h.Ln; have := h.n6; omega)).2
  unfold vq
  rw [← Rat.divInt_eq_div]
  exact sz_frac (by simp only [pw]; omega) h.D (by simp only [pw]; omega)
theorem vq_sub (s e : List Int) (L i j : Nat) : vq s e L i - vq s e L j = ((nu s e L i - nu s e L j : Int) : Rat) / ((dd s e L L : Int) : Rat) := by
  unfold vq
  rw [Rat.intCast_sub]
  grind
theorem Lad.fqv {s e : List Int} {g : Bool} {n L : Nat} (h : Lad s e g n L) (j : Nat) : fq (vq s e L j) = low (nu s e L j) (dd s e L L) := fq_low _ _ h.D
theorem Lad.fqd {s e : List Int} {g : Bool} {n L : Nat} (h : Lad s e g n L) (i j : Nat) : fq (vq s e L i - vq s e L j) = low (nu s e L i - nu s e L j) (dd s e L L) := by
  rw [vq_sub]; exact fq_low _ _ h.D
/-- An entry of a slice of ratios. -/
theorem SlN.at {w : World} {b o : Nat} {ys : List Value} (hc : ∀ i u, ys[i]? = some u → w.cell? ⟨b, o + i, none⟩ = some u) {p : Nat → Prop} {j : Nat} {q : Rat} (he : EntL p w ys j q) : ∃ (s : Int) (a : Option Addr) (n c : Nat) (t : Int) (a2 : Option Addr) (n2 c2 : Nat),
    w.cell? ⟨b, o + j * 4, none⟩ = some (.int .i64 s) ∧ w.cell? ⟨b, o + j * 4 + 1, none⟩ = some (.slice a n c) ∧ w.cell? ⟨b, o + j * 4 + 2, none⟩ = some (.int .i64 t) ∧ w.cell? ⟨b, o + j * 4 + 3, none⟩ = some (.slice a2 n2 c2)
    ∧ RatioR p w (.agg #[.int .i64 s, .slice a n c, .int .i64 t, .slice a2 n2 c2]) q := by
  obtain ⟨s, a, n, c, t, a2, n2, c2, e0, e1, e2, e3, hr⟩ := he
  rw [Nat.mul_comm j 4]
  exact ⟨s, a, n, c, t, a2, n2, c2, hc _ _ e0, hc _ _ e1, hc _ _ e2, hc _ _ e3, hr⟩
set_option maxHeartbeats 1000000 in
set_option maxRecDepth 100000 in
theorem rnodeSpan_any (s e : List (Int × Int)) (a a1 : Option Addr) (n c c1 L k : Nat) (g : Bool) (w : World) (hs : PairsR w a n s) (he : PairsR w a1 n e) (h0 : rngErr s e = 0) (hL : lastOf n g = L) (hk : k ≤ n) :
    Calls Try.prog 17 #[.agg #[.slice a n c, .slice a1 n c1, .bool g], .int .i64 k] w fun e' w' => e' = .returned (spanV (vq (extAt s (np1 k) false n) (extAt e np2 false n) L k) (vq (extAt s (np1 k) true n) (extAt e np2 true n) L k)) ∧ Below w.heap.size w w' := by
  have HEN := Lib.hid (fun (b : Bool) (v : World) (hv : Below w.heap.size w v) => ends_any s e a a1 n c c1 L k g false b v (hs.below hv) (he.below hv) h0 hL hk)
  have hn6 : n ≤ 6 := by have := rngErr_zero h0; have := hs.len; omega
  have HE1 := HEN.out false
  have HE2 := HEN.out true
  simp only [eP, eQ, Bool.false_eq_true, if_false] at HE1 HE2
  have HE1 := Lib.hid HE1
  have HE2 := Lib.hid HE2
  clear hs he h0 hL HEN
  obtain ⟨Q1, hQ1⟩ : ∃ q, q = vq (extAt s (np1 k) false n) (extAt e np2 false n) L k := ⟨_, rfl⟩
  obtain ⟨Q2, hQ2⟩ : ∃ q, q = vq (extAt s (np1 k) true n) (extAt e np2 true n) L k := ⟨_, rfl⟩
  rw [← hQ1, ← hQ2]
  have HQ1 := Lib.hid hQ1
  have HQ2 := Lib.hid hQ2
  clear hQ1 hQ2
  go_enter Try.func17, Try.ntmps17
  go_wp2
  generalize hW : World.alloc _ _ = w5 at *
  obtain ⟨X, hX⟩ : ∃ X, X = w.heap.size + 1 := ⟨_, rfl⟩
  have hb5 : Below w.heap.size w w5 := by rw [← hW]; (repeat' (first | (with_reducible exact Below.refl _ _) | (with_reducible assumption) | (with_reducible refine Below.drewN ?_ _) | (with_reducible refine Below.alloc ?_ ?_ _) | (with_reducible refine Below.drew ?_) | (with_reducible refine Below.setCell ?_ ?_ _) | (with_reducible refine Below.step (by assumption) ?_ ?_) | (with_reducible exact And.left (by assumption)) | go_size))
  have q0 : w5.cell? ⟨w.heap.size, 0, none⟩ = some (.slice a n c) := by { rw [← hW]; clear hW; go_simp }
  have q1 : w5.cell? ⟨w.heap.size, 1, none⟩ = some (.slice a1 n c1) := by { rw [← hW]; clear hW; go_simp }
  have q2 : w5.cell? ⟨w.heap.size, 2, none⟩ = some (.bool g) := by { rw [← hW]; clear hW; go_simp }
  have r05 : w5.cell? ⟨X, 0, none⟩ = some (.int .i64 0) := by { rw [← hW, hX]; clear hW; go_simp }
  have r15 : w5.cell? ⟨X, 1, none⟩ = some (.int .i64 0) := by { rw [← hW, hX]; clear hW; go_simp }
  have r25 : w5.cell? ⟨X, 2, none⟩ = some (.int .i64 0) := by { rw [← hW, hX]; clear hW; go_simp }
  have r35 : w5.cell? ⟨X, 3, none⟩ = some (.int .i64 0) := by { rw [← hW, hX]; clear hW; go_simp }
  have f05 : w5.frozen? ⟨X, 0, none⟩ = false := by { rw [← hW, hX]; clear hW; go_simp }
  have f15 : w5.frozen? ⟨X, 1, none⟩ = false := by { rw [← hW, hX]; clear hW; go_simp }
  have f25 : w5.frozen? ⟨X, 2, none⟩ = false := by { rw [← hW, hX]; clear hW; go_simp }
  have f35 : w5.frozen? ⟨X, 3, none⟩ = false := by { rw [← hW, hX]; clear hW; go_simp }
  have hzX : X < w5.heap.size := by rw [← hW, hX]; simp
  have hwX : w.heap.size < X := by omega
  have HB5 := Lib.hid hb5
  simp only [← hX]
  clear hW hb5 hX
  have ok0 : OkB w.heap.size w5.heap.size X := ⟨by omega, by omega⟩
  have k0 : (0 : Int) ≤ (k : Int) := by omega
  have k1 : (k : Int) < (n : Int) + 1 := by omega
  refine wp_region_laterC (B := w5.heap.size) (b0 :=  X) [(true, 0), (true, 1), (true, 3), (true, 6), (true, 7), (true, 9), (false, 2), (true, 4), (true, 5), (false, 8), (true, 10), (true, 11), (false, 12), (true, 13), (true, 14), (false, 15), (true, 16)] (by kernel_rfl) (by kernel_rfl) ?_; simp only [opsOf, List.filterMap_cons, List.filterMap_nil, List.getElem?_toArray, List.getElem?_cons_zero, List.getElem?_cons_succ, Option.map_some]
  repeat (refine mixc_head ?_; (show wpQuiet _ _ _ _ (_ :: _) _; go_big_quiet_step (fail)); refine wpQuiet_nil ?_)
  refine mixc_tail ?_; go_wp2_with fail
  refine (HE1.out _ HB5.out.drew).mono ?_
  rintro e6 w6 ⟨a6, c6, rfl, hb6, ys6, hs6, he6⟩
  obtain ⟨b6, o6, rfl, lo6, hi6, hc6⟩ := hs6.addr (by omega)
  try simp only [World.size_drew] at lo6
  have hz6 := hb6.size
  try simp only [World.size_drew] at hz6
  have r06 : w6.cell? ⟨X, 0, none⟩ = some (.int .i64 0) := by rw [cellB hb6 _ _ (by first | (simp only [World.size_drew]; omega) | omega)]; exact r05
  have r16 : w6.cell? ⟨X, 1, none⟩ = some (.int .i64 0) := by rw [cellB hb6 _ _ (by first | (simp only [World.size_drew]; omega) | omega)]; exact r15
  have r26 : w6.cell? ⟨X, 2, none⟩ = some (.int .i64 0) := by rw [cellB hb6 _ _ (by first | (simp only [World.size_drew]; omega) | omega)]; exact r25
  have r36 : w6.cell? ⟨X, 3, none⟩ = some (.int .i64 0) := by rw [cellB hb6 _ _ (by first | (simp only [World.size_drew]; omega) | omega)]; exact r35
  have f06 : w6.frozen? ⟨X, 0, none⟩ = false := by rw [frozenB hb6 _ _ (by first | (simp only [World.size_drew]; omega) | omega)]; exact f05
  have f16 : w6.frozen? ⟨X, 1, none⟩ = false := by rw [frozenB hb6 _ _ (by first | (simp only [World.size_drew]; omega) | omega)]; exact f15
  have f26 : w6.frozen? ⟨X, 2, none⟩ = false := by rw [frozenB hb6 _ _ (by first | (simp only [World.size_drew]; omega) | omega)]; exact f25
  have f36 : w6.frozen? ⟨X, 3, none⟩ = false := by rw [frozenB hb6 _ _ (by first | (simp only [World.size_drew]; omega) | omega)]; exact f35
  have lX6 : X < w6.heap.size := by omega
  clear r05 r15 r25 r35 f05 f15 f25 f35
  obtain ⟨s6, x6, n6, d6, t6, y6, m6, p6, g0, g1, g2, g3, hr6⟩ := SlN.at hc6 (he6 k (by omega))
  have HR6 := Lib.hid (show RatioR (fun b => b < w6.heap.size) w6 (.agg #[.int .i64 s6, .slice x6 n6 d6, .int .i64 t6, .slice y6 m6 p6]) Q1 by rw [HQ1.out]; exact hr6)
  have HS6 := Lib.hid (SameX.of_below (b0 := X) ((Below.refl w5.heap.size w5).drew.trans hb6))
  have HB6 := Lib.hid (HB5.out.drew.trans (hb6.mono (by simp only [World.size_drew]; omega)))
  clear hb6 hs6 he6 hc6 hr6
  go_wp2_with fail
  refine tailC_new w6.heap.size HS6.out hz6 ?_
  have ok6 : OkB b6 w6.heap.size X := ⟨hi6, by omega⟩
  clear ok0 q0 q1 q2
  repeat (refine mixc_head ?_; (show wpQuiet _ _ _ _ (_ :: _) _; go_big_quiet_step (fail)); refine wpQuiet_nil ?_)
  refine mixc_tail ?_; go_wp2_with fail
  refine (HE2.out _ HB6.out).mono ?_
  rintro e7 w7 ⟨a7, c7, rfl, hb7, ys7, hs7, he7⟩
  obtain ⟨b7, o7, rfl, lo7, hi7, hc7⟩ := hs7.addr (by omega)
  try simp only [World.size_drew] at lo7
  have hz7 := hb7.size
  try simp only [World.size_drew] at hz7
  have r07 : w7.cell? ⟨X, 0, none⟩ = some (.int .i64 0) := by rw [cellB hb7 _ _ (by first | (simp only [World.size_drew]; omega) | omega)]; exact r06
  have r17 : w7.cell? ⟨X, 1, none⟩ = some (.int .i64 0) := by rw [cellB hb7 _ _ (by first | (simp only [World.size_drew]; omega) | omega)]; exact r16
  have r27 : w7.cell? ⟨X, 2, none⟩ = some (.int .i64 0) := by rw [cellB hb7 _ _ (by first | (simp only [World.size_drew]; omega) | omega)]; exact r26
  have r37 : w7.cell? ⟨X, 3, none⟩ = some (.int .i64 0) := by rw [cellB hb7 _ _ (by first | (simp only [World.size_drew]; omega) | omega)]; exact r36
  have f07 : w7.frozen? ⟨X, 0, none⟩ = false := by rw [frozenB hb7 _ _ (by first | (simp only [World.size_drew]; omega) | omega)]; exact f06
  have f17 : w7.frozen? ⟨X, 1, none⟩ = false := by rw [frozenB hb7 _ _ (by first | (simp only [World.size_drew]; omega) | omega)]; exact f16
  have f27 : w7.frozen? ⟨X, 2, none⟩ = false := by rw [frozenB hb7 _ _ (by first | (simp only [World.size_drew]; omega) | omega)]; exact f26
  have f37 : w7.frozen? ⟨X, 3, none⟩ = false := by rw [frozenB hb7 _ _ (by first | (simp only [World.size_drew]; omega) | omega)]; exact f36
  have lX7 : X < w7.heap.size := by omega
  clear r06 r16 r26 r36 f06 f16 f26 f36
  obtain ⟨s7, x7, n7, d7, t7, y7, m7, p7, h0, h1, h2, h3, hr7⟩ := SlN.at hc7 (he7 k (by omega))
  have HR7 := Lib.hid (show RatioR (fun b => b < w7.heap.size) w7 (.agg #[.int .i64 s7, .slice x7 n7 d7, .int .i64 t7, .slice y7 m7 p7]) Q2 by rw [HQ2.out]; exact hr7)
  have HR6 := Lib.hid ((HR6.out.below hb7).mono (fun b hb => Nat.lt_of_lt_of_le hb hz7))
  have HS7 := Lib.hid (SameX.of_below (b0 := X) hb7)
  have HB7 := Lib.hid (HB6.out.trans (hb7.mono (by omega)))
  clear hb7 hs7 he7 hc7 hr7
  go_wp2_with fail
  refine tailC_new w7.heap.size HS7.out hz7 ?_
  have ok7 : OkB b7 w7.heap.size X := ⟨hi7, by omega⟩
  clear ok6 g0 g1 g2 g3
  obtain ⟨z0, z1, z2, z3, G, hsv⟩ := spanV_parts Q1 Q2
  have HSV := Lib.hid hsv
  have HSP := Lib.hid (fun p v1 v2 v hx hy => rspan_any p v1 v2 Q1 Q2 v hx hy)
  rw [hsv] at HSP
  clear hsv
  repeat (refine mixc_head ?_; (show wpQuiet _ _ _ _ (_ :: _) _; go_big_quiet_step (fail)); refine wpQuiet_nil ?_)
  refine mixc_tail ?_; go_wp2_with fail
  refine (HSP.out _ _ _ _ HR6.out HR7.out).mono ?_
  rintro e8 w8 ⟨rfl, hb8⟩
  have hz8 := hb8.size
  try simp only [World.size_drew] at hz8
  have r08 : w8.cell? ⟨X, 0, none⟩ = some (.int .i64 0) := by rw [cellB hb8 _ _ (by first | (simp only [World.size_drew]; omega) | omega)]; exact r07
  have r18 : w8.cell? ⟨X, 1, none⟩ = some (.int .i64 0) := by rw [cellB hb8 _ _ (by first | (simp only [World.size_drew]; omega) | omega)]; exact r17
  have r28 : w8.cell? ⟨X, 2, none⟩ = some (.int .i64 0) := by rw [cellB hb8 _ _ (by first | (simp only [World.size_drew]; omega) | omega)]; exact r27
  have r38 : w8.cell? ⟨X, 3, none⟩ = some (.int .i64 0) := by rw [cellB hb8 _ _ (by first | (simp only [World.size_drew]; omega) | omega)]; exact r37
  have f08 : w8.frozen? ⟨X, 0, none⟩ = false := by rw [frozenB hb8 _ _ (by first | (simp only [World.size_drew]; omega) | omega)]; exact f07
  have f18 : w8.frozen? ⟨X, 1, none⟩ = false := by rw [frozenB hb8 _ _ (by first | (simp only [World.size_drew]; omega) | omega)]; exact f17
  have f28 : w8.frozen? ⟨X, 2, none⟩ = false := by rw [frozenB hb8 _ _ (by first | (simp only [World.size_drew]; omega) | omega)]; exact f27
  have f38 : w8.frozen? ⟨X, 3, none⟩ = false := by rw [frozenB hb8 _ _ (by first | (simp only [World.size_drew]; omega) | omega)]; exact f37
  have lX8 : X < w8.heap.size := by omega
  clear r07 r17 r27 r37 f07 f17 f27 f37
  go_wp2_with fail
  refine tailC_new w8.heap.size (SameX.of_below (hb8.mono (by omega))) (by omega) ?_
  have HB8 := Lib.hid (HB7.out.trans (hb8.mono HB7.out.size))
  clear hb8
  repeat (refine mixc_head ?_; (show wpQuiet _ _ _ _ (_ :: _) _; go_big_quiet_step (fail)); refine wpQuiet_nil ?_)
  refine mixc_tail ?_; go_wp2_with fail
  go_wp2_with fail
  refine tailC_stay (((((show SameX w8.heap.size X w8 w8 from fun _ _ _ _ => rfl).set _).set _).set _).set _) ?_
  repeat (refine mixc_head ?_; (show wpQuiet _ _ _ _ (_ :: _) _; go_big_quiet_step (fail)); refine wpQuiet_nil ?_)
  refine mixc_nil ?_
  go_wp2
  refine bodyPost_ret (v := .tuple #[.agg #[.int .i64 z0, .int .i64 z1, .int .i64 z2, .int .i64 z3], .bool G]) (by simp [results, Try.results17, go_sem, *]) rfl ⟨by rw [HSV.out], ?_⟩
  exact below_X HB8.out (Nat.le_of_lt hwX) _ _ _ _
set_option maxHeartbeats 2000000 in
set_option maxRecDepth 100000 in
theorem rgapSpan_any (s e : List (Int × Int)) (a a1 : Option Addr) (n c c1 L k : Nat) (g : Bool) (w : World) (hs : PairsR w a n s) (he : PairsR w a1 n e) (h0 : rngErr s e = 0) (hL : lastOf n g = L) (hk : k < n) :
    Calls Try.prog 19 #[.agg #[.slice a n c, .slice a1 n c1, .bool g], .int .i64 k] w fun e' w' => e' = .returned (spanV (vq (extAt s (gp1 k) false n) (extAt e (gp2 k) false n) L k - vq (extAt s (gp1 k) false n) (extAt e (gp2 k) false n) L (k + 1)) (vq (extAt s (gp1 k) true n) (extAt e (gp2 k) true n) L k - vq (extAt s (gp1 k) true n) (extAt e (gp2 k) true n) L (k + 1))) ∧ Below w.heap.size w w' := by
  have HEN := Lib.hid (fun (b : Bool) (v : World) (hv : Below w.heap.size w v) => ends_any s e a a1 n c c1 L k g true b v (hs.below hv) (he.below hv) h0 hL (by omega))
  have hn6 : n ≤ 6 := by have := rngErr_zero h0; have := hs.len; omega
  have HE1 := HEN.out false
  have HE2 := HEN.out true
  simp only [eP, eQ, if_true] at HE1 HE2
  have HE1 := Lib.hid HE1
  have HE2 := Lib.hid HE2
  have hl1 := rng_ext (gp1 k) (gp2 k) false h0 hs.len hL
  have hl2 := rng_ext (gp1 k) (gp2 k) true h0 hs.len hL
  obtain ⟨A1, hA1⟩ : ∃ q, q = vq (extAt s (gp1 k) false n) (extAt e (gp2 k) false n) L k := ⟨_, rfl⟩
  obtain ⟨A2, hA2⟩ : ∃ q, q = vq (extAt s (gp1 k) false n) (extAt e (gp2 k) false n) L (k + 1) := ⟨_, rfl⟩
  obtain ⟨A3, hA3⟩ : ∃ q, q = vq (extAt s (gp1 k) true n) (extAt e (gp2 k) true n) L k := ⟨_, rfl⟩
  obtain ⟨A4, hA4⟩ : ∃ q, q = vq (extAt s (gp1 k) true n) (extAt e (gp2 k) true n) L (k + 1) := ⟨_, rfl⟩
  have HSZ := Lib.hid (show (Sz 2 A1 ∧ Sz 2 A2) ∧ Sz 2 A3 ∧ Sz 2 A4 by
    rw [hA1, hA2, hA3, hA4]
    exact ⟨⟨hl1.szv (by omega), hl1.szv (by omega)⟩, hl2.szv (by omega), hl2.szv (by omega)⟩)
  rw [← hA1, ← hA2, ← hA3, ← hA4]
  have HQ := Lib.hid (And.intro hA1 (And.intro hA2 (And.intro hA3 hA4)))
  clear hs he h0 hL HEN hl1 hl2 hA1 hA2 hA3 hA4
  go_enter Try.func19, Try.ntmps19
  go_wp2
  generalize hW : World.alloc _ _ = w5 at *
  obtain ⟨X, hX⟩ : ∃ X, X = w.heap.size + 1 := ⟨_, rfl⟩
  have hb5 : Below w.heap.size w w5 := by rw [← hW]; (repeat' (first | (with_reducible exact Below.refl _ _) | (with_reducible assumption) | (with_reducible refine Below.drewN ?_ _) | (with_reducible refine Below.alloc ?_ ?_ _) | (with_reducible refine Below.drew ?_) | (with_reducible refine Below.setCell ?_ ?_ _) | (with_reducible refine Below.step (by assumption) ?_ ?_) | (with_reducible exact And.left (by assumption)) | go_size))
  have q0 : w5.cell? ⟨w.heap.size, 0, none⟩ = some (.slice a n c) := by { rw [← hW]; clear hW; go_simp }
  have q1 : w5.cell? ⟨w.heap.size, 1, none⟩ = some (.slice a1 n c1) := by { rw [← hW]; clear hW; go_simp }
  have q2 : w5.cell? ⟨w.heap.size, 2, none⟩ = some (.bool g) := by { rw [← hW]; clear hW; go_simp }
  have r05 : w5.cell? ⟨X, 0, none⟩ = some (.int .i64 0) := by { rw [← hW, hX]; clear hW; go_simp }
  have r15 : w5.cell? ⟨X, 1, none⟩ = some (.int .i64 0) := by { rw [← hW, hX]; clear hW; go_simp }
  have r25 : w5.cell? ⟨X, 2, none⟩ = some (.int .i64 0) := by { rw [← hW, hX]; clear hW; go_simp }
  have r35 : w5.cell? ⟨X, 3, none⟩ = some (.int .i64 0) := by { rw [← hW, hX]; clear hW; go_simp }
  have f05 : w5.frozen? ⟨X, 0, none⟩ = false := by { rw [← hW, hX]; clear hW; go_simp }
  have f15 : w5.frozen? ⟨X, 1, none⟩ = false := by { rw [← hW, hX]; clear hW; go_simp }
  have f25 : w5.frozen? ⟨X, 2, none⟩ = false := by { rw [← hW, hX]; clear hW; go_simp }
  have f35 : w5.frozen? ⟨X, 3, none⟩ = false := by { rw [← hW, hX]; clear hW; go_simp }
  have hzX : X < w5.heap.size := by rw [← hW, hX]; simp
  have hwX : w.heap.size < X := by omega
  have HB5 := Lib.hid hb5
  simp only [← hX]
  clear hW hb5 hX
  have ok0 : OkB w.heap.size w5.heap.size X := ⟨by omega, by omega⟩
  have k0 : (0 : Int) ≤ (k : Int) := by omega
  have k1 : (k : Int) < (n : Int) + 1 := by omega
  have k2 : (k : Int) + 1 < (n : Int) + 1 := by omega
  refine wp_region_laterC (B := w5.heap.size) (b0 :=  X) [(true, 0), (true, 1), (true, 3), (true, 4), (false, 2), (false, 5), (true, 6), (true, 7)] (by kernel_rfl) (by kernel_rfl) ?_; simp only [opsOf, List.filterMap_cons, List.filterMap_nil, List.getElem?_toArray, List.getElem?_cons_zero, List.getElem?_cons_succ, Option.map_some]
  repeat (refine mixc_head ?_; (show wpQuiet _ _ _ _ (_ :: _) _; go_big_quiet_step (fail)); refine wpQuiet_nil ?_)
  refine mixc_tail ?_; go_wp2_with fail
  refine (HE1.out _ HB5.out.drew).mono ?_
  rintro e6 w6 ⟨a6, c6, rfl, hb6, ys6, hs6, he6⟩
  obtain ⟨b6, o6, rfl, lo6, hi6, hc6⟩ := hs6.addr (by omega)
  try simp only [World.size_drew] at lo6
  have hz6 := hb6.size
  try simp only [World.size_drew] at hz6
  have r06 : w6.cell? ⟨X, 0, none⟩ = some (.int .i64 0) := by rw [cellB hb6 _ _ (by first | (simp only [World.size_drew]; omega) | omega)]; exact r05
  have r16 : w6.cell? ⟨X, 1, none⟩ = some (.int .i64 0) := by rw [cellB hb6 _ _ (by first | (simp only [World.size_drew]; omega) | omega)]; exact r15
  have r26 : w6.cell? ⟨X, 2, none⟩ = some (.int .i64 0) := by rw [cellB hb6 _ _ (by first | (simp only [World.size_drew]; omega) | omega)]; exact r25
  have r36 : w6.cell? ⟨X, 3, none⟩ = some (.int .i64 0) := by rw [cellB hb6 _ _ (by first | (simp only [World.size_drew]; omega) | omega)]; exact r35
  have f06 : w6.frozen? ⟨X, 0, none⟩ = false := by rw [frozenB hb6 _ _ (by first | (simp only [World.size_drew]; omega) | omega)]; exact f05
  have f16 : w6.frozen? ⟨X, 1, none⟩ = false := by rw [frozenB hb6 _ _ (by first | (simp only [World.size_drew]; omega) | omega)]; exact f15
  have f26 : w6.frozen? ⟨X, 2, none⟩ = false := by rw [frozenB hb6 _ _ (by first | (simp only [World.size_drew]; omega) | omega)]; exact f25
  have f36 : w6.frozen? ⟨X, 3, none⟩ = false := by rw [frozenB hb6 _ _ (by first | (simp only [World.size_drew]; omega) | omega)]; exact f35
  have lX6 : X < w6.heap.size := by omega
  clear r05 r15 r25 r35 f05 f15 f25 f35
  obtain ⟨s1, x1, n1, d1, t1, y1, m1, p1, g10, g11, g12, g13, hr1⟩ := SlN.at hc6 (he6 k (by omega))
  obtain ⟨s2, x2, n2, d2, t2, y2, m2, p2, g20, g21, g22, g23, hr2⟩ := SlN.at hc6 (he6 (k + 1) (by omega))
  have HR1 := Lib.hid (show RatioR (fun b => b < w6.heap.size) w6 (.agg #[.int .i64 s1, .slice x1 n1 d1, .int .i64 t1, .slice y1 m1 p1]) A1 by rw [HQ.out.1]; exact hr1)
  have HR2 := Lib.hid (show RatioR (fun b => b < w6.heap.size) w6 (.agg #[.int .i64 s2, .slice x2 n2 d2, .int .i64 t2, .slice y2 m2 p2]) A2 by rw [HQ.out.2.1]; exact hr2)
  have HS6 := Lib.hid (SameX.of_below (b0 := X) ((Below.refl w5.heap.size w5).drew.trans hb6))
  have HB6 := Lib.hid (HB5.out.drew.trans (hb6.mono (by simp only [World.size_drew]; omega)))
  clear hb6 hs6 he6 hc6 hr1 hr2
  go_wp2_with fail
  refine tailC_new w6.heap.size HS6.out hz6 ?_
  clear ok0 q0 q1 q2
  refine mixc_tail ?_; go_wp2_with fail
  refine (HE2.out _ HB6.out).mono ?_
  rintro e7 w7 ⟨a7, c7, rfl, hb7, ys7, hs7, he7⟩
  obtain ⟨b7, o7, rfl, lo7, hi7, hc7⟩ := hs7.addr (by omega)
  try simp only [World.size_drew] at lo7
  have hz7 := hb7.size
  try simp only [World.size_drew] at hz7
  have r07 : w7.cell? ⟨X, 0, none⟩ = some (.int .i64 0) := by rw [cellB hb7 _ _ (by first | (simp only [World.size_drew]; omega) | omega)]; exact r06
  have r17 : w7.cell? ⟨X, 1, none⟩ = some (.int .i64 0) := by rw [cellB hb7 _ _ (by first | (simp only [World.size_drew]; omega) | omega)]; exact r16
  have r27 : w7.cell? ⟨X, 2, none⟩ = some (.int .i64 0) := by rw [cellB hb7 _ _ (by first | (simp only [World.size_drew]; omega) | omega)]; exact r26
  have r37 : w7.cell? ⟨X, 3, none⟩ = some (.int .i64 0) := by rw [cellB hb7 _ _ (by first | (simp only [World.size_drew]; omega) | omega)]; exact r36
  have f07 : w7.frozen? ⟨X, 0, none⟩ = false := by rw [frozenB hb7 _ _ (by first | (simp only [World.size_drew]; omega) | omega)]; exact f06
  have f17 : w7.frozen? ⟨X, 1, none⟩ = false := by rw [frozenB hb7 _ _ (by first | (simp only [World.size_drew]; omega) | omega)]; exact f16
  have f27 : w7.frozen? ⟨X, 2, none⟩ = false := by rw [frozenB hb7 _ _ (by first | (simp only [World.size_drew]; omega) | omega)]; exact f26
  have f37 : w7.frozen? ⟨X, 3, none⟩ = false := by rw [frozenB hb7 _ _ (by first | (simp only [World.size_drew]; omega) | omega)]; exact f36
  have lX7 : X < w7.heap.size := by omega
  clear r06 r16 r26 r36 f06 f16 f26 f36
  obtain ⟨s3, x3, n3, d3, t3, y3, m3, p3, g30, g31, g32, g33, hr3⟩ := SlN.at hc7 (he7 k (by omega))
  obtain ⟨s4, x4, n4, d4, t4, y4, m4, p4, g40, g41, g42, g43, hr4⟩ := SlN.at hc7 (he7 (k + 1) (by omega))
  have HR3 := Lib.hid (show RatioR (fun b => b < w7.heap.size) w7 (.agg #[.int .i64 s3, .slice x3 n3 d3, .int .i64 t3, .slice y3 m3 p3]) A3 by rw [HQ.out.2.2.1]; exact hr3)
  have HR4 := Lib.hid (show RatioR (fun b => b < w7.heap.size) w7 (.agg #[.int .i64 s4, .slice x4 n4 d4, .int .i64 t4, .slice y4 m4 p4]) A4 by rw [HQ.out.2.2.2]; exact hr4)
  have HR1 := Lib.hid ((HR1.out.below hb7).mono (fun b hb => Nat.lt_of_lt_of_le hb hz7))
  have HR2 := Lib.hid ((HR2.out.below hb7).mono (fun b hb => Nat.lt_of_lt_of_le hb hz7))
  have G10 : w7.cell? ⟨b6, o6 + k * 4, none⟩ = some (.int .i64 s1) := by rw [cellB hb7 _ _ hi6]; exact g10
  have G11 : w7.cell? ⟨b6, o6 + k * 4 + 1, none⟩ = some (.slice x1 n1 d1) := by rw [cellB hb7 _ _ hi6]; exact g11
  have G12 : w7.cell? ⟨b6, o6 + k * 4 + 2, none⟩ = some (.int .i64 t1) := by rw [cellB hb7 _ _ hi6]; exact g12
  have G13 : w7.cell? ⟨b6, o6 + k * 4 + 3, none⟩ = some (.slice y1 m1 p1) := by rw [cellB hb7 _ _ hi6]; exact g13
  have G20 : w7.cell? ⟨b6, o6 + (k + 1) * 4, none⟩ = some (.int .i64 s2) := by rw [cellB hb7 _ _ hi6]; exact g20
  have G21 : w7.cell? ⟨b6, o6 + (k + 1) * 4 + 1, none⟩ = some (.slice x2 n2 d2) := by rw [cellB hb7 _ _ hi6]; exact g21
  have G22 : w7.cell? ⟨b6, o6 + (k + 1) * 4 + 2, none⟩ = some (.int .i64 t2) := by rw [cellB hb7 _ _ hi6]; exact g22
  have G23 : w7.cell? ⟨b6, o6 + (k + 1) * 4 + 3, none⟩ = some (.slice y2 m2 p2) := by rw [cellB hb7 _ _ hi6]; exact g23
  have HS7 := Lib.hid (SameX.of_below (b0 := X) hb7)
  have HB7 := Lib.hid (HB6.out.trans (hb7.mono (by omega)))
  clear hb7 hs7 he7 hc7 hr3 hr4 g10 g11 g12 g13 g20 g21 g22 g23
  go_wp2_with fail
  refine tailC_stay HS7.out ?_
  repeat (refine mixc_head ?_; (show wpQuiet _ _ _ _ (_ :: _) _; go_big_quiet_step (fail)); refine wpQuiet_nil ?_)
  refine mixc_nil ?_
  obtain ⟨z0, z1, z2, z3, G, hsv⟩ := spanV_parts (A1 - A2) (A3 - A4)
  have HSV := Lib.hid hsv
  have HSP := Lib.hid (fun p v1 v2 v hx hy => rspan_any p v1 v2 (A1 - A2) (A3 - A4) v hx hy)
  rw [hsv] at HSP
  clear hsv
  have ok6 : OkB b6 w7.heap.size X := ⟨by omega, by omega⟩
  have ok7 : OkB b7 w7.heap.size X := ⟨hi7, by omega⟩
  go_wp2
  refine wp_region_laterC (B := w7.heap.size) (b0 :=  X) [(true, 0), (true, 1), (true, 2), (true, 3), (true, 4), (true, 5), (true, 6), (true, 7), (true, 8), (true, 10), (true, 11), (true, 12), (true, 13), (true, 14), (true, 15), (true, 16), (true, 17), (true, 18), (false, 9), (false, 19), (false, 20), (true, 21), (true, 22), (false, 23), (true, 24)] (by kernel_rfl) (by kernel_rfl) ?_; simp only [opsOf, List.filterMap_cons, List.filterMap_nil, List.getElem?_toArray, List.getElem?_cons_zero, List.getElem?_cons_succ, Option.map_some]
  repeat (refine mixc_head ?_; (show wpQuiet _ _ _ _ (_ :: _) _; go_big_quiet_step (fail)); refine wpQuiet_nil ?_)
  refine mixc_tail ?_; go_wp2_with fail
  refine (ratioSub_any (fun b => b < w7.heap.size) _ _ A1 A2 2 2 w7.drew (HR1.out.below ((Below.refl _ _).drew)) (HR2.out.below ((Below.refl _ _).drew)) (fun b hb => by simpa using hb) HSZ.out.1.1 HSZ.out.1.2 (by omega)).mono ?_
  rintro e8 w8 ⟨v8, rfl, hb8, hr8⟩
  have hz8 := hb8.size
  try simp only [World.size_drew] at hz8
  have r08 : w8.cell? ⟨X, 0, none⟩ = some (.int .i64 0) := by rw [cellB hb8 _ _ (by first | (simp only [World.size_drew]; omega) | omega)]; exact r07
  have r18 : w8.cell? ⟨X, 1, none⟩ = some (.int .i64 0) := by rw [cellB hb8 _ _ (by first | (simp only [World.size_drew]; omega) | omega)]; exact r17
  have r28 : w8.cell? ⟨X, 2, none⟩ = some (.int .i64 0) := by rw [cellB hb8 _ _ (by first | (simp only [World.size_drew]; omega) | omega)]; exact r27
  have r38 : w8.cell? ⟨X, 3, none⟩ = some (.int .i64 0) := by rw [cellB hb8 _ _ (by first | (simp only [World.size_drew]; omega) | omega)]; exact r37
  have f08 : w8.frozen? ⟨X, 0, none⟩ = false := by rw [frozenB hb8 _ _ (by first | (simp only [World.size_drew]; omega) | omega)]; exact f07
  have f18 : w8.frozen? ⟨X, 1, none⟩ = false := by rw [frozenB hb8 _ _ (by first | (simp only [World.size_drew]; omega) | omega)]; exact f17
  have f28 : w8.frozen? ⟨X, 2, none⟩ = false := by rw [frozenB hb8 _ _ (by first | (simp only [World.size_drew]; omega) | omega)]; exact f27
  have f38 : w8.frozen? ⟨X, 3, none⟩ = false := by rw [frozenB hb8 _ _ (by first | (simp only [World.size_drew]; omega) | omega)]; exact f37
  have lX8 : X < w8.heap.size := by omega
  clear r07 r17 r27 r37 f07 f17 f27 f37
  have HR8 := Lib.hid (hr8.here.mono (p' := fun b => b < w8.heap.size) (fun b hb => hb.2))
  have hb8' : Below w7.heap.size w7 w8 := (Below.refl w7.heap.size w7).drew.trans hb8
  have HR3 := Lib.hid ((HR3.out.below hb8').mono (p' := fun b => b < w8.heap.size) (fun b hb => Nat.lt_of_lt_of_le hb hz8))
  have HR4 := Lib.hid ((HR4.out.below hb8').mono (p' := fun b => b < w8.heap.size) (fun b hb => Nat.lt_of_lt_of_le hb hz8))
  have HS8 := Lib.hid (SameX.of_below (b0 := X) hb8')
  have HB8 := Lib.hid (HB7.out.trans (hb8'.mono (by omega)))
  obtain ⟨s8, x8, n8, d8, t8, y8, m8, p8, rfl, _, _⟩ := hr8
  clear hb8 hb8' HR1 HR2
  go_wp2_with fail
  refine tailC_stay HS8.out ?_
  refine mixc_tail ?_; go_wp2_with fail
  refine (ratioSub_any (fun b => b < w8.heap.size) _ _ A3 A4 2 2 w8 HR3.out HR4.out (fun b hb => hb) HSZ.out.2.1 HSZ.out.2.2 (by omega)).mono ?_
  rintro e9 w9 ⟨v9, rfl, hb9, hr9⟩
  have hz9 := hb9.size
  try simp only [World.size_drew] at hz9
  have r09 : w9.cell? ⟨X, 0, none⟩ = some (.int .i64 0) := by rw [cellB hb9 _ _ (by first | (simp only [World.size_drew]; omega) | omega)]; exact r08
  have r19 : w9.cell? ⟨X, 1, none⟩ = some (.int .i64 0) := by rw [cellB hb9 _ _ (by first | (simp only [World.size_drew]; omega) | omega)]; exact r18
  have r29 : w9.cell? ⟨X, 2, none⟩ = some (.int .i64 0) := by rw [cellB hb9 _ _ (by first | (simp only [World.size_drew]; omega) | omega)]; exact r28
  have r39 : w9.cell? ⟨X, 3, none⟩ = some (.int .i64 0) := by rw [cellB hb9 _ _ (by first | (simp only [World.size_drew]; omega) | omega)]; exact r38
  have f09 : w9.frozen? ⟨X, 0, none⟩ = false := by rw [frozenB hb9 _ _ (by first | (simp only [World.size_drew]; omega) | omega)]; exact f08
  have f19 : w9.frozen? ⟨X, 1, none⟩ = false := by rw [frozenB hb9 _ _ (by first | (simp only [World.size_drew]; omega) | omega)]; exact f18
  have f29 : w9.frozen? ⟨X, 2, none⟩ = false := by rw [frozenB hb9 _ _ (by first | (simp only [World.size_drew]; omega) | omega)]; exact f28
  have f39 : w9.frozen? ⟨X, 3, none⟩ = false := by rw [frozenB hb9 _ _ (by first | (simp only [World.size_drew]; omega) | omega)]; exact f38
  have lX9 : X < w9.heap.size := by omega
  clear r08 r18 r28 r38 f08 f18 f28 f38
  have HR9 := Lib.hid (hr9.here.mono (p' := fun b => b < w9.heap.size) (fun b hb => hb.2))
  have HR8 := Lib.hid ((HR8.out.below hb9).mono (p' := fun b => b < w9.heap.size) (fun b hb => Nat.lt_of_lt_of_le hb hz9))
  have HS9 := Lib.hid (fun b o (hb : b < w7.heap.size) hne => (((SameX.of_below (b0 := X) hb9) b o (by omega) hne).trans (HS8.out b o hb hne) : w9.cell? ⟨b, o, none⟩ = w7.cell? ⟨b, o, none⟩))
  have HB9 := Lib.hid (HB8.out.trans (hb9.mono (by omega)))
  obtain ⟨s9, x9, n9, d9, t9, y9, m9, p9, rfl, _, _⟩ := hr9
  clear hb9 HR3 HR4
  go_wp2_with fail
  refine tailC_new w9.heap.size HS9.out (by omega) ?_
  refine mixc_tail ?_; go_wp2_with fail
  refine (HSP.out _ _ _ _ HR8.out HR9.out).mono ?_
  rintro e10 w10 ⟨rfl, hb10⟩
  have hz10 := hb10.size
  try simp only [World.size_drew] at hz10
  have r010 : w10.cell? ⟨X, 0, none⟩ = some (.int .i64 0) := by rw [cellB hb10 _ _ (by first | (simp only [World.size_drew]; omega) | omega)]; exact r09
  have r110 : w10.cell? ⟨X, 1, none⟩ = some (.int .i64 0) := by rw [cellB hb10 _ _ (by first | (simp only [World.size_drew]; omega) | omega)]; exact r19
  have r210 : w10.cell? ⟨X, 2, none⟩ = some (.int .i64 0) := by rw [cellB hb10 _ _ (by first | (simp only [World.size_drew]; omega) | omega)]; exact r29
  have r310 : w10.cell? ⟨X, 3, none⟩ = some (.int .i64 0) := by rw [cellB hb10 _ _ (by first | (simp only [World.size_drew]; omega) | omega)]; exact r39
  have f010 : w10.frozen? ⟨X, 0, none⟩ = false := by rw [frozenB hb10 _ _ (by first | (simp only [World.size_drew]; omega) | omega)]; exact f09
  have f110 : w10.frozen? ⟨X, 1, none⟩ = false := by rw [frozenB hb10 _ _ (by first | (simp only [World.size_drew]; omega) | omega)]; exact f19
  have f210 : w10.frozen? ⟨X, 2, none⟩ = false := by rw [frozenB hb10 _ _ (by first | (simp only [World.size_drew]; omega) | omega)]; exact f29
  have f310 : w10.frozen? ⟨X, 3, none⟩ = false := by rw [frozenB hb10 _ _ (by first | (simp only [World.size_drew]; omega) | omega)]; exact f39
  have lX10 : X < w10.heap.size := by omega
  clear r09 r19 r29 r39 f09 f19 f29 f39
  go_wp2_with fail
  refine tailC_new w10.heap.size (SameX.of_below (hb10.mono (by omega))) (by omega) ?_
  have HB10 := Lib.hid (HB9.out.trans (hb10.mono HB9.out.size))
  clear hb10
  repeat (refine mixc_head ?_; (show wpQuiet _ _ _ _ (_ :: _) _; go_big_quiet_step (fail)); refine wpQuiet_nil ?_)
  refine mixc_tail ?_; go_wp2_with fail
  go_wp2_with fail
  refine tailC_stay (((((show SameX w10.heap.size X w10 w10 from fun _ _ _ _ => rfl).set _).set _).set _).set _) ?_
  repeat (refine mixc_head ?_; (show wpQuiet _ _ _ _ (_ :: _) _; go_big_quiet_step (fail)); refine wpQuiet_nil ?_)
  refine mixc_nil ?_
  go_wp2
  refine bodyPost_ret (v := .tuple #[.agg #[.int .i64 z0, .int .i64 z1, .int .i64 z2, .int .i64 z3], .bool G]) (by simp [results, Try.results19, go_sem, *]) rfl ⟨by rw [HSV.out], ?_⟩
  exact below_X HB10.out (Nat.le_of_lt hwX) _ _ _ _
end Go.Proofs.Ytphgacledebolaa
