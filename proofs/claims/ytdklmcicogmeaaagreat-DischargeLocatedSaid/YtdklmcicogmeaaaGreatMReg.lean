import Derived.Test.YtdklmcicogmeaaaGreatDAns
import Derived.Test.YtdklmcicogmeaaaGreatMDAnsP
import Derived.Test.YtdklmcicogmeaaaGreatMPlain0
/- The iterator over all cells of a grid. -/
namespace Go.Proofs.YtdklmcicogmeaaaGreat
open Go.RowKit Go.Shelf
set_option linter.unusedVariables false
attribute [local go_sem] Oper.semAt_some

def cellsZ (x y k : Nat) : List T3 := (List.range k).map fun (z : Nat) => ⟨(x : Int), (y : Int), (z : Int)⟩
def cellsY (cz x k : Nat) : List T3 := (List.range k).flatMap fun y => cellsZ x y cz
def cellsX (cy cz k : Nat) : List T3 := (List.range k).flatMap fun x => cellsY cz x cy
theorem cellsZ_succ (x y k : Nat) : cellsZ x y (k + 1) = cellsZ x y k ++ [⟨(x : Int), (y : Int), (k : Int)⟩] := by
  unfold cellsZ; rw [List.range_succ, List.map_append]; rfl
theorem cellsY_succ (cz x k : Nat) : cellsY cz x (k + 1) = cellsY cz x k ++ cellsZ x k cz := by
  unfold cellsY; rw [List.range_succ, List.flatMap_append]; simp
theorem cellsX_succ (cy cz k : Nat) : cellsX cy cz (k + 1) = cellsX cy cz k ++ cellsY cz k cy := by
  unfold cellsX; rw [List.range_succ, List.flatMap_append]; simp
/-- The cells ahead of one. -/
def cellsU (cy cz x y z : Nat) : List T3 := cellsX cy cz x ++ cellsY cz x y ++ cellsZ x y z
theorem cellsU_z (cy cz x y z : Nat) : cellsU cy cz x y (z + 1) = cellsU cy cz x y z ++ [⟨(x : Int), (y : Int), (z : Int)⟩] := by
  unfold cellsU; rw [cellsZ_succ, List.append_assoc (cellsX cy cz x ++ cellsY cz x y)]
theorem cellsU_y (cy cz x y : Nat) : cellsU cy cz x y cz = cellsU cy cz x (y + 1) 0 := by
  unfold cellsU; rw [cellsY_succ]; simp [cellsZ]
theorem cellsU_x (cy cz x : Nat) : cellsU cy cz x cy 0 = cellsU cy cz (x + 1) 0 0 := by
  unfold cellsU; rw [cellsX_succ]; simp [cellsZ, cellsY]
theorem cellsU_zero (cy cz : Nat) : cellsU cy cz 0 0 0 = [] := rfl
theorem cellsU_end (cy cz x : Nat) : cellsU cy cz x 0 0 = cellsX cy cz x := by unfold cellsU; simp [cellsZ, cellsY]
theorem cellsX_mem {cy cz cx : Nat} {p : T3} : p ∈ cellsX cy cz cx ↔ ∃ x y z : Nat, x < cx ∧ y < cy ∧ z < cz ∧ p = ⟨(x : Int), (y : Int), (z : Int)⟩ := by
  unfold cellsX cellsY cellsZ
  simp only [List.mem_flatMap, List.mem_range, List.mem_map]
  constructor
  · rintro ⟨x, hx, y, hy, z, hz, rfl⟩; exact ⟨x, y, z, hx, hy, hz, rfl⟩
  · rintro ⟨x, y, z, hx, hy, hz, rfl⟩; exact ⟨x, hx, y, hy, z, hz, rfl⟩
/-- Cells of the iterator's own box are kept. -/
def KeepH (B : Nat) (A A' : World) : Prop := ∀ k c z, B ≤ k → A.heap[k]? = some (.cells c 125 z) → A'.heap[k]? = some (.cells c 125 z)
set_option maxHeartbeats 4000000 in
set_option maxRecDepth 100000 in
theorem cells_calls (v0 v1 v2 v3 v7 v8 : Value) (cx cy cz : Nat) (a : Option Addr) (n c lr : Nat) (J : List T3 → World → Prop) (Jx : World → Prop) (W : World) (hcx : cx ≤ 1000) (hcy : cy ≤ 1000) (hcz : cz ≤ 1000)
    (hJ : ∀ L A B, J L A → Below A.heap.size A B → J L B)
    (hY : ∀ x y z A, x < cx → y < cy → z < cz → J (cellsU cy cz x y z) A → YieldAt Fence.wide 1 Tryz.prog lr #[.agg #[.int .i64 x, .int .i64 y, .int .i64 z]] A (fun e B => (e = .returned (.bool true) ∧ J (cellsU cy cz x y (z + 1)) B ∧ KeepH W.heap.size A B) ∨ (e = .returned (.bool false) ∧ Jx B)))
    (h0 : J [] W) :
    Calls Tryz.prog 63 #[.agg #[v0, v1, v2, v3, .int .i64 cx, .int .i64 cy, .int .i64 cz, v7, v8, .slice a n c], .func (.yield lr) #[] #[]] W (fun e B => (∃ v, e = .returned v) ∧ (J (cellsX cy cz cx) B ∨ Jx B)) := by
  have HJ := Lib.hid hJ
  have HY := Lib.hid hY
  clear hJ hY
  go_enter Tryz.func63, Tryz.ntmps63
  go_wp2_with fail
  generalize hW : World.alloc _ _ = w8
  have hx8 : w8.heap[W.heap.size]? = some (.cells #[v0, v1, v2, v3, .int .i64 cx, .int .i64 cy, .int .i64 cz, v7, v8, .slice a n c] 125) := by rw [← hW]; exact heap_alloc_new _ _
  have hb8 : Below W.heap.size W w8 := by rw [← hW]; (repeat' (first | (with_reducible exact Below.refl _ _) | (with_reducible assumption) | (with_reducible refine Below.drewN ?_ _) | (with_reducible refine Below.alloc ?_ ?_ _) | (with_reducible refine Below.drew ?_) | (with_reducible refine Below.setCell ?_ ?_ _) | (with_reducible refine Below.step (by assumption) ?_ ?_) | (with_reducible exact And.left (by assumption)) | go_size))
  have hJ8 := HJ.out _ _ _ h0 hb8
  clear hW hb8 h0
  obtain ⟨XB, hXB⟩ : ∃ X, X = W.heap.size := ⟨_, rfl⟩
  rw [← hXB] at hx8 HY
  simp only [← hXB]
  clear hXB
  go_loopw [11] (fun x wr => ∃ i : Nat, x = .int .i64 i ∧ i ≤ cx ∧ J (cellsU cy cz i 0 0) wr ∧ wr.heap[XB]? = some (.cells #[v0, v1, v2, v3, .int .i64 cx, .int .i64 cy, .int .i64 cz, v7, v8, .slice a n c] 125)) (fun x _ => cx - (intOf x).toNat)
  case atStart => exact ⟨0, rfl, Nat.zero_le _, hJ8, hx8⟩
  case round =>
    clear hJ8 hx8
    obtain ⟨i, rfl, hi, hJi, hx⟩ := hrel
    have i0 : (0 : Int) ≤ (i : Int) := by omega
    rcases Nat.lt_or_ge i cx with hlt | hge
    · have c5 := cell_of_row _ _ 5 _ _ _ hx
      simp only [List.getElem?_toArray, List.getElem?_cons_zero, List.getElem?_cons_succ] at c5
      have i1 : (i : Int) < (cx : Int) := by omega
      go_wp2_with fail
      clear c5
      go_loopw [18] (fun x wr => ∃ j : Nat, x = .int .i64 j ∧ j ≤ cy ∧ J (cellsU cy cz i j 0) wr ∧ wr.heap[XB]? = some (.cells #[v0, v1, v2, v3, .int .i64 cx, .int .i64 cy, .int .i64 cz, v7, v8, .slice a n c] 125)) (fun x _ => cy - (intOf x).toNat)
      case atStart => exact ⟨0, rfl, Nat.zero_le _, hJi, hx⟩
      case round =>
        clear hJi hx
        obtain ⟨j, rfl, hj, hJj, hx⟩ := hrel
        have j0 : (0 : Int) ≤ (j : Int) := by omega
        rcases Nat.lt_or_ge j cy with hltj | hgej
        · have c6 := cell_of_row _ _ 6 _ _ _ hx
          simp only [List.getElem?_toArray, List.getElem?_cons_zero, List.getElem?_cons_succ] at c6
          have j1 : (j : Int) < (cy : Int) := by omega
          go_wp2_with fail
          clear c6
          go_loopw [25] (fun x wr => ∃ k : Nat, x = .int .i64 k ∧ k ≤ cz ∧ J (cellsU cy cz i j k) wr ∧ wr.heap[XB]? = some (.cells #[v0, v1, v2, v3, .int .i64 cx, .int .i64 cy, .int .i64 cz, v7, v8, .slice a n c] 125)) (fun x _ => cz - (intOf x).toNat)
          case atStart => exact ⟨0, rfl, Nat.zero_le _, hJj, hx⟩
          case round =>
            clear hJj hx
            obtain ⟨k, rfl, hk, hJk, hx⟩ := hrel
            have k0 : (0 : Int) ≤ (k : Int) := by omega
            rcases Nat.lt_or_ge k cz with hltk | hgek
            · have k1 : (k : Int) < (cz : Int) := by omega
              obtain ⟨fn, tmps, assign, body, hy, hR⟩ := HY.out i j k _ hlt hltj hltk hJk
              go_upto_region 10 with (fail)
              go_cut [34] from 28 to 34 (fun v34 wx => (v34 = .bool false ∧ J (cellsU cy cz i j (k + 1)) wx ∧ wx.heap[XB]? = some (.cells #[v0, v1, v2, v3, .int .i64 cx, .int .i64 cy, .int .i64 cz, v7, v8, .slice a n c] 125)) ∨ (v34 = .bool true ∧ Jx wx))
              case first =>
                refine (wpIn_wide (n := 2)).1 ?_
                gi_wp2
                refine hR.mono ?_
                rintro e W' (⟨rfl, hJ2, hK2⟩ | ⟨rfl, hJx⟩)
                · gi_wp2
                  go_meet
                  exact .inl ⟨rfl, hJ2, hK2 XB _ _ (Nat.le_refl _) hx⟩
                · gi_wp2
                  go_meet
                  exact .inr ⟨rfl, hJx⟩
              case rest =>
                rcases hcut with ⟨rfl, hJ2, hx2⟩ | ⟨rfl, hJ2⟩
                · go_wp2
                  go_roundw
                  case rel => exact ⟨k + 1, by go_num, by omega, hJ2, hx2⟩
                  case measure => simp [intOf]; omega
                · go_wp2
                  refine bodyPost_ret (results_none rfl _ _ _) rfl ?_
                  exact ⟨⟨_, rfl⟩, .inr hJ2⟩
            · obtain rfl : k = cz := by omega
              go_wp2
              go_roundw
              case rel => exact ⟨j + 1, by go_num, by omega, by rw [← cellsU_y]; exact hJk, hx⟩
              case measure => simp [intOf]; omega
        · obtain rfl : j = cy := by omega
          go_wp2
          go_roundw
          case rel => exact ⟨i + 1, by go_num, by omega, by rw [← cellsU_x]; exact hJj, hx⟩
          case measure => simp [intOf]; omega
    · obtain rfl : i = cx := by omega
      go_wp2
      go_end0
      exact ⟨⟨_, rfl⟩, .inl (by rw [← cellsU_end]; exact hJi)⟩
end Go.Proofs.YtdklmcicogmeaaaGreat

/- The region: the program's function. -/
namespace Go.Proofs.YtdklmcicogmeaaaGreat
open Go.RowKit Go.Shelf
set_option linter.unusedVariables false
attribute [local go_sem] Oper.semAt_some

/-- A cell of a region: its index, its answer. -/
structure Cel where
  c : T3
  v : Int
  deriving DecidableEq
def e4c (p : Cel) : List Value := [.int .i64 p.c.x, .int .i64 p.c.y, .int .i64 p.c.z, .int .i64 p.v]
theorem e4c_len (p : Cel) : (e4c p).length = 4 := rfl
theorem e4c_one (p : Cel) : ∀ u ∈ e4c p, u.oneCell' = true := fun u hu => by
  simp only [e4c, List.mem_cons, List.not_mem_nil, or_false] at hu
  rcases hu with rfl | rfl | rfl | rfl <;> rfl
def CelR (w : World) (a : Option Addr) (n : Nat) (l : List Cel) : Prop := ER e4c 4 w a n l
theorem infoCel : (Tryz.prog.info? 132).map (fun i => (i.zero, i.size, i.bytes)) = some (some (.agg #[.int .i64 0, .int .i64 0, .int .i64 0, .int .i64 0]), 4, 32) := by kernel_rfl
def regC (p : T3 → Int) (L : List T3) : List Cel := L.filterMap fun c => if p c = 0 then none else some ⟨c, p c⟩
theorem regC_no {p : T3 → Int} {L : List T3} {c : T3} (h : p c = 0) : regC p (L ++ [c]) = regC p L := by unfold regC; simp [h]
theorem regC_yes {p : T3 → Int} {L : List T3} {c : T3} (h : p c ≠ 0) : regC p (L ++ [c]) = regC p L ++ [⟨c, p c⟩] := by unfold regC; simp [h]
theorem regC_len (p : T3 → Int) (L : List T3) : (regC p L).length ≤ L.length := List.length_filterMap_le _ _
def gCells (g : Gri) : List T3 := cellsX g.c.y.toNat g.c.z.toNat g.c.x.toNat
theorem flatMap_len_le {α β : Type} {f : α → List β} {k : Nat} (h : ∀ x, (f x).length ≤ k) : ∀ l : List α, (l.flatMap f).length ≤ l.length * k
  | [] => by simp
  | x :: r => by
    have := flatMap_len_le h r
    have := h x
    rw [List.flatMap_cons, List.length_append, List.length_cons, Nat.succ_mul]; omega
theorem cellsY_len (cz x k : Nat) : (cellsY cz x k).length ≤ k * cz := by
  have := flatMap_len_le (f := fun y => cellsZ x y cz) (k := cz) (fun y => by unfold cellsZ; simp) (List.range k)
  rwa [List.length_range] at this
theorem cellsX_len (cy cz k : Nat) : (cellsX cy cz k).length ≤ k * (cy * cz) := by
  have := flatMap_len_le (f := fun x => cellsY cz x cy) (k := cy * cz) (fun x => cellsY_len cz x cy) (List.range k)
  rwa [List.length_range] at this
theorem cellsU_len {cx cy cz x y z : Nat} (h1 : cx ≤ 6) (h2 : cy ≤ 6) (h3 : cz ≤ 6) (hx : x < cx) (hy : y < cy) (hz : z < cz) : (cellsU cy cz x y z).length ≤ 400 := by
  unfold cellsU
  rw [List.length_append, List.length_append]
  have a1 := cellsX_len cy cz x
  have a2 := cellsY_len cz x y
  have a3 : (cellsZ x y z).length = z := by unfold cellsZ; simp
  have b1 : cy * cz ≤ 6 * 6 := Nat.mul_le_mul h2 h3
  have b2 : x * (cy * cz) ≤ 6 * 36 := Nat.mul_le_mul (by omega) (by omega)
  have b3 : y * cz ≤ 6 * 6 := Nat.mul_le_mul (by omega) h3
  omega
def hE (g : Gri) (A : Arr) : Int := firstErr [griE g, (arrE A).2]
theorem hE_zero {g : Gri} {A : Arr} (h : hE g A = 0) : griE g = 0 ∧ (arrE A).2 = 0 := by
  unfold hE at h
  obtain ⟨h1, h2⟩ := firstErr_cons.1 h
  exact ⟨h1, (firstErr_cons.1 h2).1⟩
def regV (g : Gri) (A : Arr) : List Cel := if hE g A ≠ 0 then [] else regC (ans g A) (gCells g)
theorem cf_cells (args : Array Value) (w : World) : (callFunc 63 args).run Tryz.prog w = .ok (.enter 63 args) w := by kernel_rfl
/-- A row of cells that a call has made grows: other blocks stay. -/
theorem own_other {w w' : World} {base n sz : Nat} {e : TypeId} {v : Value} {xs : List Value} (h : w.ownsRow base e sz v n xs) (hg : w.grownBy w' v.ownBlock) {t : TypeId} (ht : e ≠ t) : ∀ (B : Nat) cur z, w.heap[B]? = some (.cells cur t z) → w'.heap[B]? = some (.cells cur t z) := fun B cur z hB => by
  rw [hg.block B (Array.getElem?_eq_some_iff.1 hB).1 (fun e => ?_)]
  · exact hB
  · rcases h.2 with ⟨rfl, _⟩ | ⟨g, cap, cur', rfl, _, hgg, _⟩
    · simp [Value.ownBlock] at e
    · simp only [Value.ownBlock, Option.some.injEq] at e
      subst e
      rw [hgg] at hB
      simp only [Option.some.injEq, Obj.cells.injEq] at hB
      exact absurd hB.2.1 ht
theorem own_put {w : World} {base n sz l : Nat} {e : TypeId} {v : Value} {xs : List Value} {r r' : Loop} (h : w.ownsRow base e sz v n xs) (hl : w.heap[l]? = some (.loop r)) : (w.putObj l (.loop r')).ownsRow base e sz v n xs := by
  refine ⟨h.1, ?_⟩
  rcases h.2 with hn | ⟨g, cap, cur, rfl, hbase, hgg, rest⟩
  · exact .inl hn
  · refine .inr ⟨g, cap, cur, rfl, hbase, ?_, rest⟩
    rw [World.putObj_heap_other (by rintro rfl; rw [hl] at hgg; cases hgg)]
    exact hgg
theorem own_same {w w' : World} {base n sz : Nat} {e : TypeId} {v : Value} {xs : List Value} (h : w.ownsRow base e sz v n xs) (hs : SameCells w w') : w'.ownsRow base e sz v n xs := by
  refine ⟨h.1, ?_⟩
  rcases h.2 with hn | ⟨g, cap, cur, rfl, hbase, hgg, rest⟩
  · exact .inl hn
  · exact .inr ⟨g, cap, cur, rfl, hbase, hs _ _ _ _ hgg, rest⟩
theorem wpListIn_cell {F : Fence} {N : Nat} {ops : Array Oper} {rest : List Oper} {o : Oper} {a : Act} {Q : Exit → Act → World → Prop} (w : World) (hgd : o.guard = none) (s x : Operand)
    (ho : o.op = .call { callee := .builtin .append, args := #[s, x], argTypes := #[47, 47] }) (base n B : Nat) (v : Value) (xs : List Value) (us : List Value) (hs : a.eval s = v)
    (hown : w.ownsRow base 132 4 v n xs) (hx : a.eval x = .slice (some ⟨B, 0, none⟩) 1 1) (hus : us.length = 4) (hc : ∀ j u, us[j]? = some u → w.cell? ⟨B, j, none⟩ = some u) (h1 : ∀ u ∈ us, u.oneCell' = true) (hn : n ≤ 1000000) (hbase : base ≤ w.heap.size)
    (h : ∀ v' w', w'.ownsRow base 132 4 v' (n + 1) (xs ++ us) → w.grownBy w' v.ownBlock → Below base w w' → wpListIn F N Tryz.prog ops Q rest (a.put o.dst v') w') : wpListIn F N Tryz.prog ops Q (o :: rest) a w := by
  obtain ⟨i, hi1, hi2, hi3, hi4⟩ := info_parts infoCel
  have hmul : (n + 1) * 32 ≤ 1000001 * 32 := Nat.mul_le_mul (by omega) (by omega)
  refine wpListIn_append_own w hgd s x 47 ho base 132 i _ 4 32 Tryz.underlying47 hi1 hi2 hi3 hi4 rfl (by omega) v n xs hs hown ⟨B, 0, none⟩ 1 1 us hx (by rw [hus]) (fun j u hu => by rw [Addr.add_lit, Nat.zero_add]; exact hc j u hu) h1 (by unfold maxLen; omega) (by omega) hbase
    (fun v' w' h2 h3 _ => h v' w' h2 h3 ((Below.refl base w).grown h3 hbase (fun k hk => (hown.lt k hk).1)))
theorem firstErr_two {x y : Int} (h : x ≠ 0) : firstErr [x, y] = x := by simp [firstErr, h]
set_option maxHeartbeats 4000000 in
set_option maxRecDepth 100000 in
theorem regionOf_any (g : Gri) (A : Arr) (a : Option Addr) (n cap : Nat) (w : World) (hl : SenR w a n A.l) :
    Calls Tryz.prog 19 #[.agg #[.int .i64 g.f.x, .int .i64 g.f.y, .int .i64 g.f.z, .int .i64 g.st, .int .i64 g.c.x, .int .i64 g.c.y, .int .i64 g.c.z], .agg #[.int .i64 A.lo, .int .i64 A.hi, .slice a n cap]] w
      fun e' w' => ∃ a' k' c', e' = .returned (.tuple #[.slice a' k' c', .int .i64 (hE g A)]) ∧ Below w.heap.size w w' ∧ CelR w' a' k' (regV g A) := by
  have HH := Lib.hid (fun (W : World) (hb : Below w.heap.size w W) => hear_any g A a n cap W (hl.below hb))
  have HEQ := Lib.hid (show firstErr [griE g, (arrE A).2] = hE g A from rfl)
  rw [HEQ.out] at HH
  by_cases h0 : hE g A = 0
  · obtain ⟨hg, ha⟩ := hE_zero h0
    have hV : regV g A = regC (ans g A) (gCells g) := by unfold regV; rw [if_neg (by rw [h0]; decide)]
    rw [hV, h0]
    rw [h0] at HH
    clear hV h0 HEQ
    have HAN := Lib.hid (fun (c : T3) (W : World) (hs : SenR W a n A.l) (hc : celB g c = true) => answer_any g A c a n cap W hs hg ha hc)
    have HSL := Lib.hid hl
    have hgc := cnt_iff.1 (griE_zero hg).2.2
    clear hg ha hl
    obtain ⟨p, hp⟩ : ∃ p : T3 → Int, p = ans g A := ⟨_, rfl⟩
    rw [← hp]
    have HAN := Lib.hid (fun (c : T3) (W : World) (hs : SenR W a n A.l) (hc : celB g c = true) => show Calls Tryz.prog 62 #[.agg #[.int .i64 g.f.x, .int .i64 g.f.y, .int .i64 g.f.z, .int .i64 g.st, .int .i64 g.c.x, .int .i64 g.c.y, .int .i64 g.c.z, .int .i64 A.lo, .int .i64 A.hi, .slice a n cap], .agg #[.int .i64 c.x, .int .i64 c.y, .int .i64 c.z]] W fun e' w' => e' = .returned (.int .i64 (p c)) ∧ Below W.heap.size W w' by rw [hp]; exact HAN.out c W hs hc)
    clear hp
    have HCB := Lib.hid (fun c : T3 => celB_iff (g := g) (c := c))
    obtain ⟨⟨fx, fy, fz⟩, st, ⟨gx, gy, gz⟩⟩ := g
    obtain ⟨vl, vh, l⟩ := A
    simp only at *
    obtain ⟨cx, rfl⟩ : ∃ k : Nat, gx = k := ⟨gx.toNat, by omega⟩
    obtain ⟨cy, rfl⟩ : ∃ k : Nat, gy = k := ⟨gy.toNat, by omega⟩
    obtain ⟨cz, rfl⟩ : ∃ k : Nat, gz = k := ⟨gz.toNat, by omega⟩
    have hcx : cx ≤ 6 := by omega
    have hcy : cy ≤ 6 := by omega
    have hcz : cz ≤ 6 := by omega
    have hgl : gCells ⟨⟨fx, fy, fz⟩, st, ⟨(cx : Int), (cy : Int), (cz : Int)⟩⟩ = cellsX cy cz cx := by unfold gCells; simp
    rw [hgl]
    clear hgl hgc
    refine (callsIn_wide (n := 3)).1 ?_
    refine callsIn_of_wp_marks Tryz.func19 rfl trivial ?_ rfl
    simp only [Tryz.ntmps19, List.size_toArray, List.length_cons, List.length_nil, Nat.reduceAdd, Nat.reduceSub, Array.replicate_succ, Array.replicate_zero, List.push_toArray, List.append_toArray, List.nil_append, List.cons_append]
    refine (wpIn_wide (n := 3)).2 ?_
    go_wp2_with fail
    refine (HH.out _ (by (repeat' (first | (with_reducible exact Below.refl _ _) | (with_reducible assumption) | (with_reducible refine Below.drewN ?_ _) | (with_reducible refine Below.alloc ?_ ?_ _) | (with_reducible refine Below.drew ?_) | (with_reducible refine Below.setCell ?_ ?_ _) | (with_reducible refine Below.step (by assumption) ?_ ?_) | (with_reducible exact And.left (by assumption)) | go_size)))).mono ?_
    rintro e5 w5 ⟨rfl, hb5⟩
    have HB5 := Lib.hid (show Below w.heap.size w w5 from Below.trans (by (repeat' (first | (with_reducible exact Below.refl _ _) | (with_reducible assumption) | (with_reducible refine Below.drewN ?_ _) | (with_reducible refine Below.alloc ?_ ?_ _) | (with_reducible refine Below.drew ?_) | (with_reducible refine Below.setCell ?_ ?_ _) | (with_reducible refine Below.step (by assumption) ?_ ?_) | (with_reducible exact And.left (by assumption)) | go_size))) (hb5.mono (by simp; omega)))
    clear hb5 HH
    go_wp2_with fail
    obtain ⟨X6, hX6⟩ : ∃ X, X = w5.heap.size := ⟨_, rfl⟩
    rw [← hX6]
    generalize hWq : w5.alloc (Obj.cells #[.int .i64 fx, .int .i64 fy, .int .i64 fz, .int .i64 st, .int .i64 cx, .int .i64 cy, .int .i64 cz, .int .i64 vl, .int .i64 vh, .slice a n cap] 125) = wq
    have hbq : Below w5.heap.size w5 wq := by rw [← hWq]; (repeat' (first | (with_reducible exact Below.refl _ _) | (with_reducible assumption) | (with_reducible refine Below.drewN ?_ _) | (with_reducible refine Below.alloc ?_ ?_ _) | (with_reducible refine Below.drew ?_) | (with_reducible refine Below.setCell ?_ ?_ _) | (with_reducible refine Below.step (by assumption) ?_ ?_) | (with_reducible exact And.left (by assumption)) | go_size))
    have k6 : wq.heap[X6]? = some (.cells #[.int .i64 fx, .int .i64 fy, .int .i64 fz, .int .i64 st, .int .i64 cx, .int .i64 cy, .int .i64 cz, .int .i64 vl, .int .i64 vh, .slice a n cap] 125) := by rw [← hWq, hX6]; exact heap_alloc_new _ _
    have hzq : wq.heap.size = X6 + 1 := by rw [← hWq, hX6]; simp
    have HBq := Lib.hid (HB5.out.trans (hbq.mono HB5.out.size))
    clear hWq hbq HB5
    obtain ⟨X8, hX8⟩ : ∃ X, X = X6 + 1 := ⟨_, rfl⟩
    rw [← hX8] at hzq ⊢
    obtain ⟨w6, hW6⟩ : ∃ w6, w6 = wq.alloc (Obj.cells #[.slice none 0 0] 47) := ⟨_, rfl⟩
    rw [← hW6]
    have hb6 : Below wq.heap.size wq w6 := by rw [hW6]; (repeat' (first | (with_reducible exact Below.refl _ _) | (with_reducible assumption) | (with_reducible refine Below.drewN ?_ _) | (with_reducible refine Below.alloc ?_ ?_ _) | (with_reducible refine Below.drew ?_) | (with_reducible refine Below.setCell ?_ ?_ _) | (with_reducible refine Below.step (by assumption) ?_ ?_) | (with_reducible exact And.left (by assumption)) | go_size))
    have k8 : w6.heap[X8]? = some (.cells #[.slice none 0 0] 47) := by rw [hW6, ← hzq]; exact heap_alloc_new _ _
    have hz6 : w6.heap.size = X8 + 1 := by rw [hW6]; simp; omega
    have hBw6 := HBq.out.trans (hb6.mono HBq.out.size)
    have n8 : wq.heap[X8]? = none := Array.getElem?_eq_none (by omega)
    have hw8 : w.heap.size ≤ X8 := by have := HBq.out.size; omega
    have hS6 := (SameCells.refl wq).below hb6
    have hZ6 : wq.heap.size ≤ w6.heap.size := hb6.size
    clear hW6 hb6
    have HSLq := Lib.hid (HSL.out.below HBq.out)
    have hx68 : X6 < X8 := by omega
    clear hX6 hX8
    refine (wpIn_wide (n := 3)).1 ?_
    refine range_two (gf := 63) (fst := #[.agg #[.int .i64 fx, .int .i64 fy, .int .i64 fz, .int .i64 st, .int .i64 cx, .int .i64 cy, .int .i64 cz, .int .i64 vl, .int .i64 vh, .slice a n cap]]) (lst := #[]) rfl cf_cells ?_
    intro rec hst hpe hpa htm has hbo
    have hL1 : ((w6.alloc (.deferred (some []))).alloc (.loop rec)).heap[w6.heap.size + 1]? = some (.loop rec) := by
      have := World.alloc_heap_new (w6.alloc (.deferred (some []))) (.loop rec); rwa [World.size_alloc] at this
    have hK1 : ((w6.alloc (.deferred (some []))).alloc (.loop rec)).heap[w6.heap.size]? = some (.deferred (some [])) := (Below.heap_alloc _ _ _ (by simp)).trans (World.alloc_heap_new w6 _)
    have hb9 : Below w6.heap.size w6 ((w6.alloc (.deferred (some []))).alloc (.loop rec)) := by (repeat' (first | (with_reducible exact Below.refl _ _) | (with_reducible assumption) | (with_reducible refine Below.drewN ?_ _) | (with_reducible refine Below.alloc ?_ ?_ _) | (with_reducible refine Below.drew ?_) | (with_reducible refine Below.setCell ?_ ?_ _) | (with_reducible refine Below.step (by assumption) ?_ ?_) | (with_reducible exact And.left (by assumption)) | go_size))
    have hz9 : ((w6.alloc (.deferred (some []))).alloc (.loop rec)).heap.size = w6.heap.size + 2 := by simp
    generalize (w6.alloc (.deferred (some []))).alloc (.loop rec) = w9 at *
    obtain ⟨lr, hlr⟩ : ∃ lr, lr = w6.heap.size + 1 := ⟨_, rfl⟩
    obtain ⟨D, hD⟩ : ∃ D, D = w6.heap.size := ⟨_, rfl⟩
    rw [← hlr] at hL1
    rw [← hD] at hK1
    simp only [← hlr]
    simp only [← hD]
    have x8D : X8 < D := by omega
    have dl : D < lr := by omega
    have hwD : w.heap.size ≤ D := by omega
    have hl9 : w9.heap.size = lr + 1 := by omega
    have hI9 : RInv lr D rec w wq w9 := ⟨hL1, hK1, hS6.below hb9, Nat.le_trans hZ6 hb9.size, hBw6.trans (hb9.mono hBw6.size)⟩
    have h8 := (hb9.block _ (Array.getElem?_eq_some_iff.1 k8).1).trans k8
    clear hL1 hK1 hb9 hlr hD hS6 hZ6 hBw6 k8 hz9
    show CallsIn Fence.wide _ _ _ #[.agg #[.int .i64 fx, .int .i64 fy, .int .i64 fz, .int .i64 st, .int .i64 cx, .int .i64 cy, .int .i64 cz, .int .i64 vl, .int .i64 vh, .slice a n cap], .func (.yield lr) #[] #[]] _ _
    refine (callsIn_wide.2 (cells_calls _ _ _ _ _ _ cx cy cz a n cap lr
      (fun L B => RInv lr D rec w wq B ∧ ∃ q av cv, B.heap[X8]? = some (.cells #[.slice av q cv] 47) ∧ B.ownsRow (lr + 1) 132 4 (.slice av q cv) q (ecells e4c (regC p L)))
      (fun _ => False) w9 (by omega) (by omega) (by omega) ?_ ?_ ⟨hI9, 0, none, 0, h8, World.ownsRow_nil _ _ _ _⟩)).mono ?_
    · rintro L A B ⟨h1, q, av, cv, h3, h4⟩ hb
      exact ⟨h1.below hb, q, av, cv, (hb.block _ (Array.getElem?_eq_some_iff.1 h3).1).trans h3, owns_below h4 hb (fun z hz => (h4.lt z hz).2)⟩
    · rintro i j k A hi hj hk ⟨h1, q, av, cv, h3, h4⟩
      have hql : q ≤ 400 := by
        have e1 := h4.1
        rw [ecells_len e4c_len] at e1
        have e2 := regC_len p (cellsU cy cz i j k)
        have e3 := cellsU_len hcx hcy hcz hi hj hk
        omega
      have HUZ := Lib.hid (cellsU_z cy cz i j k)
      refine yield_two h1.1 hst hpe (by rw [hpa]; rfl) ?_
      obtain ⟨RB, hRB⟩ : ∃ RB : Loop, RB = { rec with state := .busy } := ⟨_, rfl⟩
      rw [← hRB]
      have HRB := Lib.hid hRB
      clear hRB
      rw [has, hbo, hpa, htm]
      clear has hbo hpa htm hst hpe
      gi_wp2
      obtain ⟨A0, hA0⟩ : ∃ A0, A0 = A.alloc (Obj.cells #[.int .i64 i, .int .i64 j, .int .i64 k] 22) := ⟨_, rfl⟩
      rw [← hA0]
      obtain ⟨XC, hXC⟩ : ∃ X, X = A.heap.size := ⟨_, rfl⟩
      rw [← hXC]
      have hbA : Below A.heap.size A A0 := by rw [hA0]; (repeat' (first | (with_reducible exact Below.refl _ _) | (with_reducible assumption) | (with_reducible refine Below.drewN ?_ _) | (with_reducible refine Below.alloc ?_ ?_ _) | (with_reducible refine Below.drew ?_) | (with_reducible refine Below.setCell ?_ ?_ _) | (with_reducible refine Below.step (by assumption) ?_ ?_) | (with_reducible exact And.left (by assumption)) | go_size))
      have kC : A0.heap[XC]? = some (.cells #[.int .i64 i, .int .i64 j, .int .i64 k] 22) := by rw [hA0, hXC]; exact heap_alloc_new _ _
      have hlC : lr < XC := by rw [hXC]; exact (Array.getElem?_eq_some_iff.1 h1.1).1
      have h1 := h1.below hbA
      have h3 := (hbA.block _ (Array.getElem?_eq_some_iff.1 h3).1).trans h3
      have h4 := owns_below h4 hbA (fun z hz => (h4.lt z hz).2)
      have HAH := Lib.hid (fun (B : Nat) cur z (hB : A.heap[B]? = some (.cells cur 125 z)) => show A0.heap[B]? = some (.cells cur 125 z) from (hbA.block _ (Array.getElem?_eq_some_iff.1 hB).1).trans hB)
      clear hA0 hbA hXC
      have hjl := h1.1
      have hI := h1
      refine ⟨hjl, ?_⟩
      have hB1 : SameCells wq (A0.putObj lr (.loop RB)) := hI.2.2.1.put hjl
      have hB2 : wq.heap.size ≤ (A0.putObj lr (.loop RB)).heap.size := by rw [World.putObj_size]; exact hI.2.2.2.1
      have hB3 : Below w.heap.size w (A0.putObj lr (.loop RB)) := hI.2.2.2.2.trans (belowK_b (w := w) (Nat.le_refl _) A0 lr _ _ (by omega) hjl rfl rfl)
      have hB4 : (A0.putObj lr (.loop RB)).heap[lr]? = some (.loop RB) := World.putObj_heap_same (Array.getElem?_eq_some_iff.1 hjl).1
      have hB5 : (A0.putObj lr (.loop RB)).heap[D]? = some (.deferred (some [])) := (World.putObj_heap_other (by omega)).trans hI.2.1
      have hB6 : ∀ (B : Nat) cur z, A0.heap[B]? = some (.cells cur 125 z) → (A0.putObj lr (.loop RB)).heap[B]? = some (.cells cur 125 z) := fun B cur z hB => (SameCells.refl A0).put hjl _ _ _ _ hB
      have e8 : (A0.putObj lr (.loop RB)).heap[X8]? = _ := (World.putObj_heap_other (show X8 ≠ lr by omega)).trans h3
      have eC : (A0.putObj lr (.loop RB)).heap[XC]? = _ := (World.putObj_heap_other (show XC ≠ lr by omega)).trans kC
      have hR1 := own_put (r' := RB) h4 hjl
      have HB6 := Lib.hid (fun (B : Nat) cur z (hB : A.heap[B]? = some (.cells cur 125 z)) => hB6 B cur z (HAH.out B cur z hB))
      generalize A0.putObj lr (.loop RB) = A1 at *
      clear hI hjl h1 h3 h4 kC HAH hB6
      have hnrm : ∀ (ac : Act) (W8 : World), W8.heap[lr]? = some (.loop RB) → W8.heap[D]? = some (.deferred (some [])) → SameCells wq W8 → wq.heap.size ≤ W8.heap.size → Below w.heap.size w W8 → (∀ (B : Nat) cur z, A1.heap[B]? = some (.cells cur 125 z) → W8.heap[B]? = some (.cells cur 125 z)) →
          (∃ q av cv, W8.heap[X8]? = some (.cells #[.slice av q cv] 47) ∧ W8.ownsRow (lr + 1) 132 4 (.slice av q cv) q (ecells e4c (regC p (cellsU cy cz i j (k + 1))))) →
          twoPost Tryz.prog lr rec (fun e B => (e = .returned (.bool true) ∧ (RInv lr D rec w wq B ∧ ∃ q av cv, B.heap[X8]? = some (.cells #[.slice av q cv] 47) ∧ B.ownsRow (lr + 1) 132 4 (.slice av q cv) q (ecells e4c (regC p (cellsU cy cz i j (k + 1))))) ∧ KeepH w9.heap.size A B) ∨ (e = .returned (.bool false) ∧ False)) .normal ac W8 := by
        rintro ac W8 g4 g5 g1 g2 g3 gH ⟨q', av', cv', g8, gR⟩
        refine ⟨by rw [← HRB.out]; exact g4, .inl ⟨rfl, ⟨RInv.ready (A1 := A1) g1 g2 g3 g4 g5 (by omega), q', av', cv', (World.putObj_heap_other (show X8 ≠ lr by omega)).trans g8, own_put gR g4⟩, fun B cc z _ hB => ?_⟩⟩
        exact (SameCells.refl W8).put g4 _ _ _ _ (gH _ _ _ (HB6.out _ _ _ hB))
      have HNRM := Lib.hid hnrm
      clear hnrm
      have kx := hB1 _ _ _ _ k6
      have t0 := cell_of_row _ _ 0 _ _ _ kx
      have t1 := cell_of_row _ _ 1 _ _ _ kx
      have t2 := cell_of_row _ _ 2 _ _ _ kx
      have t3 := cell_of_row _ _ 3 _ _ _ kx
      have t4 := cell_of_row _ _ 4 _ _ _ kx
      have t5 := cell_of_row _ _ 5 _ _ _ kx
      have t6 := cell_of_row _ _ 6 _ _ _ kx
      have t7 := cell_of_row _ _ 7 _ _ _ kx
      have t8 := cell_of_row _ _ 8 _ _ _ kx
      have t9 := cell_of_row _ _ 9 _ _ _ kx
      have u0 := cell_of_row _ _ 0 _ _ _ eC
      have u1 := cell_of_row _ _ 1 _ _ _ eC
      have u2 := cell_of_row _ _ 2 _ _ _ eC
      simp only [List.getElem?_toArray, List.getElem?_cons_zero, List.getElem?_cons_succ] at t0 t1 t2 t3 t4 t5 t6 t7 t8 t9 u0 u1 u2
      have HXS := Lib.hid (HAN.out ⟨(i : Int), (j : Int), (k : Int)⟩ A1 (ER.same HSLq.out hB1 hB2) ((HCB.out _).2 ⟨⟨Int.natCast_nonneg _, Int.ofNat_lt.2 hi⟩, ⟨Int.natCast_nonneg _, Int.ofNat_lt.2 hj⟩, Int.natCast_nonneg _, Int.ofNat_lt.2 hk⟩))
      have HPC := Lib.hid (show p ⟨(i : Int), (j : Int), (k : Int)⟩ = p ⟨(i : Int), (j : Int), (k : Int)⟩ from rfl)
      have HNO := Lib.hid (fun h => (congrArg (regC p) HUZ.out).trans (regC_no (p := p) (L := cellsU cy cz i j k) (c := ⟨(i : Int), (j : Int), (k : Int)⟩) h))
      have HYE := Lib.hid (fun h => (congrArg (regC p) HUZ.out).trans (regC_yes (p := p) (L := cellsU cy cz i j k) (c := ⟨(i : Int), (j : Int), (k : Int)⟩) h))
      generalize p ⟨(i : Int), (j : Int), (k : Int)⟩ = pv at *
      have HF := Lib.hid (And.intro hB1 (And.intro hB2 (And.intro hB3 (And.intro hB4 (And.intro hB5 (And.intro e8 (And.intro hR1 eC)))))))
      clear hB1 hB2 hB3 hB4 hB5 e8 hR1 kx eC
      gi_wp2
      refine ⟨trivial, CallsIn.mono (callsIn_wide.2 HXS.out) ?_⟩
      rintro e7 w7 ⟨rfl, hb7⟩
      have HB7 := Lib.hid hb7
      have e8 := (hb7.block _ (Array.getElem?_eq_some_iff.1 HF.out.2.2.2.2.2.1).1).trans HF.out.2.2.2.2.2.1
      have eC := (hb7.block _ (Array.getElem?_eq_some_iff.1 HF.out.2.2.2.2.2.2.2).1).trans HF.out.2.2.2.2.2.2.2
      have y8 := cell_of_row _ _ 0 _ _ _ e8
      have f8 := frozen_of_row _ _ 0 _ _ e8
      have u0 := cell_of_row _ _ 0 _ _ _ eC
      have u1 := cell_of_row _ _ 1 _ _ _ eC
      have u2 := cell_of_row _ _ 2 _ _ _ eC
      simp only [List.getElem?_toArray, List.getElem?_cons_zero, List.getElem?_cons_succ] at y8 u0 u1 u2
      have HE8 := Lib.hid e8
      have HR7 := Lib.hid (owns_below HF.out.2.2.2.2.2.2.1 hb7 (fun z hz => (HF.out.2.2.2.2.2.2.1.lt z hz).2))
      have l8 : X8 < w7.heap.size := (Array.getElem?_eq_some_iff.1 e8).1
      have lC : XC < w7.heap.size := (Array.getElem?_eq_some_iff.1 eC).1
      have llr : lr < w7.heap.size := Nat.lt_of_lt_of_le (Array.getElem?_eq_some_iff.1 HF.out.2.2.2.1).1 hb7.size
      clear hb7 e8 eC HXS t0 t1 t2 t3 t4 t5 t6 t7 t8 t9
      by_cases hpv : pv = 0
      · subst hpv
        have HL := Lib.hid (HNO.out rfl)
        clear HNO HYE
        gi_wp2
        obtain ⟨hB1, hB2, hB3, hB4, hB5, e8, hR1, eC⟩ := HF.out
        have hb7 := HB7.out
        refine HNRM.out _ _ ((hb7.block _ (Array.getElem?_eq_some_iff.1 hB4).1).trans hB4) ((hb7.block _ (Array.getElem?_eq_some_iff.1 hB5).1).trans hB5) (hB1.below hb7) (Nat.le_trans hB2 hb7.size) (hB3.trans (hb7.mono hB3.size)) (fun B cc z hB => (hb7.block _ (Array.getElem?_eq_some_iff.1 hB).1).trans hB) ⟨q, av, cv, HE8.out, ?_⟩
        rw [HL.out]
        exact HR7.out
      · have hpv1 := bne_iff_ne.2 hpv
        have HL := Lib.hid ((congrArg (ecells e4c) (HYE.out hpv)).trans (ecells_append _ _))
        clear HNO HYE hpv
        gi_wp2_with (gi_at_builtin; refine wpListIn_cell _ rfl _ _ rfl (lr + 1) q _ (.slice av q cv) (ecells e4c (regC p (cellsU cy cz i j k))) [.int .i64 i, .int .i64 j, .int .i64 k, .int .i64 pv] rfl (HR7.out.alloc _) rfl rfl (fun j u hu => by rw [cell_of_row _ _ j _ _ _ (heap_alloc_new _ _)]; simpa using hu) (by simp [Value.oneCell']) (by omega) (by simp; omega) ?_)
        intro v2 w2 hown2 hgr2 hb2
        obtain ⟨av2, cv2, rfl, _, _⟩ := owns_slice hown2
        have hba : Below w7.heap.size w7 (w7.alloc (Obj.cells #[.int .i64 i, .int .i64 j, .int .i64 k, .int .i64 pv] 132)) := by (repeat' (first | (with_reducible exact Below.refl _ _) | (with_reducible assumption) | (with_reducible refine Below.drewN ?_ _) | (with_reducible refine Below.alloc ?_ ?_ _) | (with_reducible refine Below.drew ?_) | (with_reducible refine Below.setCell ?_ ?_ _) | (with_reducible refine Below.step (by assumption) ?_ ?_) | (with_reducible exact And.left (by assumption)) | go_size))
        have hown2 : w2.ownsRow (lr + 1) 132 4 (.slice av2 (q + 1) cv2) (q + 1) (ecells e4c (regC p (cellsU cy cz i j (k + 1)))) := by rw [HL.out]; exact hown2
        have hI2 := own_other (HR7.out.alloc (.cells #[.int .i64 i, .int .i64 j, .int .i64 k, .int .i64 pv] 132)) hgr2 (t := 125) (by decide)
        have hza := hba.size
        generalize w7.alloc (Obj.cells #[.int .i64 i, .int .i64 j, .int .i64 k, .int .i64 pv] 132) = wa at *
        have hb2' : Below (lr + 1) w7 w2 := (hba.mono (by omega)).trans hb2
        have e8 := (hb2'.block _ (by omega)).trans HE8.out
        have z8 := cell_of_row _ _ 0 _ _ _ e8
        have f9 := frozen_of_row _ _ 0 _ _ e8
        simp only [List.getElem?_toArray, List.getElem?_cons_zero] at z8
        have hz2 := hb2'.size
        have l9 : X8 < w2.heap.size := by omega
        have HB2 := Lib.hid hb2'
        have HR2 := Lib.hid hown2
        have HI2 := Lib.hid (fun (B : Nat) cc z (hB : w7.heap[B]? = some (Obj.cells cc 125 z)) => hI2 B cc z ((hba.block _ (Array.getElem?_eq_some_iff.1 hB).1).trans hB))
        have HE9 := Lib.hid e8
        clear hba hI2 hown2 hgr2 hb2 hb2' e8 HR7 hza
        gi_wp2
        obtain ⟨hB1, hB2, hB3, hB4, hB5, _, _, _⟩ := HF.out
        have hb7 := HB7.out
        have hb2 := HB2.out
        have g4 := (hb2.block lr (by omega)).trans ((hb7.block _ (Array.getElem?_eq_some_iff.1 hB4).1).trans hB4)
        have g5 := (hb2.block D (by omega)).trans ((hb7.block _ (Array.getElem?_eq_some_iff.1 hB5).1).trans hB5)
        have hS7 := hB1.below hb7
        have hS2 : SameCells wq w2 := fun j cc t z hj => (hb2.block j (by have := (Array.getElem?_eq_some_iff.1 hj).1; omega)).trans (hS7 j cc t z hj)
        have hz7 := hb7.size
        have hBw2 : Below w.heap.size w w2 := (hB3.trans (hb7.mono hB3.size)).trans (hb2.mono (by omega))
        have hKH : ∀ (B : Nat) cc z, w2.heap[B]? = some (Obj.cells cc 125 z) → (w2.setCell ⟨X8, 0, none⟩ (.slice av2 (q + 1) cv2)).heap[B]? = some (Obj.cells cc 125 z) := fun B cc z hB => by
          rw [heap_set_ne (by
            rintro rfl
            rw [HE9.out] at hB
            simp only [Option.some.injEq, Obj.cells.injEq] at hB
            exact absurd hB.2.1 (by decide))]
          exact hB
        refine HNRM.out _ _ ((heap_set_ne (show lr ≠ X8 by omega)).trans g4) ((heap_set_ne (show D ≠ X8 by omega)).trans g5) (hS2.set n8) (by simp; omega) (hBw2.setCell hw8 _)
          (fun B cc z hB => hKH _ _ _ (HI2.out B cc z ((hb7.block _ (Array.getElem?_eq_some_iff.1 hB).1).trans hB))) ⟨q + 1, av2, cv2, cells_set HE9.out, ownsRow_setCell_below HR2.out (a := ⟨X8, 0, none⟩) (by show X8 < lr + 1; omega) _⟩
    · rintro e W9 ⟨⟨v, rfl⟩, h⟩
      obtain ⟨h1, q, av, cv, h3, h4⟩ := h.resolve_right id
      refine ⟨⟨_, rfl⟩, .inl ⟨h1.1, ?_⟩⟩
      have hBw : Below w.heap.size w (W9.putObj lr (.loop { rec with state := .exhausted })) := h1.2.2.2.2.trans (belowK_b (w := w) (Nat.le_refl _) W9 lr _ _ (by omega) h1.1 rfl rfl)
      have g5 : (W9.putObj lr (.loop { rec with state := .exhausted })).heap[D]? = some (.deferred (some [])) := (World.putObj_heap_other (by omega)).trans h1.2.1
      have g8 : (W9.putObj lr (.loop { rec with state := .exhausted })).heap[X8]? = _ := (World.putObj_heap_other (show X8 ≠ lr by omega)).trans h3
      have hR := own_put (r' := { rec with state := .exhausted }) h4 h1.1
      generalize W9.putObj lr (.loop { rec with state := .exhausted }) = W2 at *
      have c8 := cell_of_row _ _ 0 _ _ _ g8
      simp only [List.getElem?_toArray, List.getElem?_cons_zero] at c8
      have l8 : X8 < W2.heap.size := (Array.getElem?_eq_some_iff.1 g8).1
      have HR := Lib.hid hR
      have HBw := Lib.hid hBw
      have H5 := Lib.hid g5
      clear h h1 h3 h4 hst hpe hpa htm has hbo hI9 h8 g8 hR hBw g5
      go_wp2_with fail
      refine leaves_marks (B := w.heap.size) (w0 := w) [D] W2 (by simp) (fun E hE => by simp at hE; subst hE; exact ⟨hwD, H5.out⟩) HBw.out (fun w' hs hb' => ⟨.tuple #[.slice av q cv, .int .i64 0], ?_, av, q, cv, rfl, hb', ?_⟩)
      · simp [results, Tryz.results19, go_sem]
      · have ho := own_same HR.out hs
        exact ER.of_owns (by have := ho.1; rw [ecells_len e4c_len] at this; omega) ho
  · have hV : regV g A = [] := by unfold regV; rw [if_pos h0]
    rw [hV]
    generalize hE g A = E at *
    have hE1 := bne_iff_ne.2 h0
    clear hV h0 hl HEQ
    refine (callsIn_wide (n := 3)).1 ?_
    refine callsIn_of_wp_marks Tryz.func19 rfl trivial ?_ rfl
    simp only [Tryz.ntmps19, List.size_toArray, List.length_cons, List.length_nil, Nat.reduceAdd, Nat.reduceSub, Array.replicate_succ, Array.replicate_zero, List.push_toArray, List.append_toArray, List.nil_append, List.cons_append]
    refine (wpIn_wide (n := 3)).2 ?_
    go_wp2_with fail
    refine (HH.out _ (by (repeat' (first | (with_reducible exact Below.refl _ _) | (with_reducible assumption) | (with_reducible refine Below.drewN ?_ _) | (with_reducible refine Below.alloc ?_ ?_ _) | (with_reducible refine Below.drew ?_) | (with_reducible refine Below.setCell ?_ ?_ _) | (with_reducible refine Below.step (by assumption) ?_ ?_) | (with_reducible exact And.left (by assumption)) | go_size)))).mono ?_
    rintro e5 w5 ⟨rfl, hb5⟩
    have HB5 := Lib.hid (show Below w.heap.size w w5 from Below.trans (by (repeat' (first | (with_reducible exact Below.refl _ _) | (with_reducible assumption) | (with_reducible refine Below.drewN ?_ _) | (with_reducible refine Below.alloc ?_ ?_ _) | (with_reducible refine Below.drew ?_) | (with_reducible refine Below.setCell ?_ ?_ _) | (with_reducible refine Below.step (by assumption) ?_ ?_) | (with_reducible exact And.left (by assumption)) | go_size))) (hb5.mono (by simp; omega)))
    clear hb5 HH
    go_wp2_with fail
    refine leaves_marks (B := w.heap.size) (w0 := w) [] _ List.nodup_nil (fun D hD => by simp at hD) (Below.alloc HB5.out HB5.out.size _) (fun w' hs hb' => ⟨.tuple #[.slice none 0 0, .int .i64 E], ?_, none, 0, 0, rfl, hb', ER.nil _ _⟩)
    simp [results, Tryz.results19, go_sem]
end Go.Proofs.YtdklmcicogmeaaaGreat
