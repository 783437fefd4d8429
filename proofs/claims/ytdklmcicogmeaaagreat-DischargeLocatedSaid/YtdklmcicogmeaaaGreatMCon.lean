import Derived.Test.YtdklmcicogmeaaaGreatBlk
import Derived.Test.YtdklmcicogmeaaaGreatDCtr
import Derived.Test.YtdklmcicogmeaaaGreatMDRows
import Derived.Test.YtdklmcicogmeaaaGreatMRDist
import Derived.Test.YtdklmcicogmeaaaGreatMReg
import Derived.Test.YtdklmcicogmeaaaGreatRCopyA
import Derived.Test.YtdklmcicogmeaaaGreatSchedZ
/- Whether some sensors exclude every cell: the program's function. -/
namespace Go.Proofs.YtdklmcicogmeaaaGreat
open Go.RowKit Go.Shelf
set_option linter.unusedVariables false
attribute [local go_sem] Oper.semAt_some

def subA (A : Arr) (S : List Nat) : Arr := ⟨A.lo, A.hi, S.map (sAt A.l)⟩
def emptyB (g : Gri) (A : Arr) : Bool := (gCells g).all (fun c => decide (ans g A c = 0))
theorem heap_set_neE {W : World} {b i k : Nat} {v : Value} (h : k ≠ b) : (W.setCell ⟨b, i, none⟩ v).heap[k]? = W.heap[k]? := by
  simp [World.setCell, Array.getElem?_modify, h.symm]
theorem sAt_getE {l : List Sen} {i : Nat} {x : Sen} (h : l[i]? = some x) : sAt l i = x := by
  unfold sAt; rw [List.getD_eq_getElem?_getD, h]; rfl
set_option maxHeartbeats 4000000 in
set_option maxRecDepth 100000 in
theorem isEmpty_any (g : Gri) (A : Arr) (S : List Nat) (a aS : Option Addr) (n cap k cS : Nat) (w : World) (hl : SenR w a n A.l) (hS : IntsR w aS k (nats S)) (hg : griE g = 0) (ha : (arrE (subA A S)).2 = 0) (hlt : ∀ i ∈ S, i < n) :
    Calls Tryz.prog 65 #[.agg #[.int .i64 g.f.x, .int .i64 g.f.y, .int .i64 g.f.z, .int .i64 g.st, .int .i64 g.c.x, .int .i64 g.c.y, .int .i64 g.c.z, .int .i64 A.lo, .int .i64 A.hi, .slice a n cap], .slice aS k cS] w
      fun e' w' => e' = .returned (.bool (emptyB g (subA A S))) ∧ Below w.heap.size w w' := by
  have hkl : S.length = k := by have := hS.len; simpa [nats] using this
  have hk5 : k ≤ 5 := by
    have := (arrE_zero ha).2.2.2.1
    unfold subA at this
    simp only [List.length_map] at this
    omega
  have HAN := Lib.hid (fun (c : T3) (a' : Option Addr) (n' c' : Nat) (W : World) (hs : SenR W a' n' (S.map (sAt A.l))) (hc : celB g c = true) => answer_any g (subA A S) c a' n' c' W hs hg ha hc)
  have hgc := cnt_iff.1 (griE_zero hg).2.2
  obtain ⟨p, hp⟩ : ∃ p : T3 → Int, p = ans g (subA A S) := ⟨_, rfl⟩
  have hV : emptyB g (subA A S) = (gCells g).all (fun c => decide (p c = 0)) := by rw [hp]; rfl
  rw [hV]
  have HAN := Lib.hid (fun (c : T3) (a' : Option Addr) (n' c' : Nat) (W : World) (hs : SenR W a' n' (S.map (sAt A.l))) (hc : celB g c = true) => show Calls Tryz.prog 62 #[.agg #[.int .i64 g.f.x, .int .i64 g.f.y, .int .i64 g.f.z, .int .i64 g.st, .int .i64 g.c.x, .int .i64 g.c.y, .int .i64 g.c.z, .int .i64 A.lo, .int .i64 A.hi, .slice a' n' c'], .agg #[.int .i64 c.x, .int .i64 c.y, .int .i64 c.z]] W fun e' w' => e' = .returned (.int .i64 (p c)) ∧ Below W.heap.size W w' by rw [hp]; exact HAN.out c a' n' c' W hs hc)
  clear hp hV
  have HCB := Lib.hid (fun c : T3 => celB_iff (g := g) (c := c))
  have HSL := Lib.hid hl
  have HIS := Lib.hid hS
  have HLT := Lib.hid hlt
  have HKL := Lib.hid hkl
  clear hg ha hl hS hlt hkl
  obtain ⟨⟨fx, fy, fz⟩, st, ⟨gx, gy, gz⟩⟩ := g
  obtain ⟨vl, vh, l⟩ := A
  simp only at *
  obtain ⟨cx, rfl⟩ : ∃ k : Nat, gx = k := ⟨gx.toNat, by omega⟩
  obtain ⟨cy, rfl⟩ : ∃ k : Nat, gy = k := ⟨gy.toNat, by omega⟩
  obtain ⟨cz, rfl⟩ : ∃ k : Nat, gz = k := ⟨gz.toNat, by omega⟩
  have hcx : cx ≤ 6 := by omega
  have hcy : cy ≤ 6 := by omega
  have hcz : cz ≤ 6 := by omega
  have hgl : gCells ⟨⟨fx, fy, fz⟩, st, ⟨(cx : Int), (cy : Int), (cz : Int)⟩⟩ = cellsX cy cz cx := by unfold gCells; simp
  rw [hgl]
  clear hgl hgc
  refine (callsIn_wide (n := 3)).1 ?_
  refine callsIn_of_wp_marks Tryz.func65 rfl trivial ?_ rfl
  simp only [Tryz.ntmps65, List.size_toArray, List.length_cons, List.length_nil, Nat.reduceAdd, Nat.reduceSub, Array.replicate_succ, Array.replicate_zero, List.push_toArray, List.append_toArray, List.nil_append, List.cons_append]
  refine (wpIn_wide (n := 3)).2 ?_
  go_wp2_with fail
  obtain ⟨w6, hW⟩ : ∃ w6, w6 = (w.alloc (Obj.cells #[.int .i64 fx, .int .i64 fy, .int .i64 fz, .int .i64 st, .int .i64 cx, .int .i64 cy, .int .i64 cz, .int .i64 vl, .int .i64 vh, .slice none 0 0] 125)).alloc (Obj.cells #[.bool false] 4) := ⟨_, rfl⟩
  rw [← hW]
  obtain ⟨BO, hBO⟩ : ∃ X, X = w.heap.size := ⟨_, rfl⟩
  obtain ⟨X4, hX4⟩ : ∃ X, X = BO + 1 := ⟨_, rfl⟩
  have hb6 : Below w.heap.size w w6 := by rw [hW]; (repeat' (first | (with_reducible exact Below.refl _ _) | (with_reducible assumption) | (with_reducible refine Below.drewN ?_ _) | (with_reducible refine Below.alloc ?_ ?_ _) | (with_reducible refine Below.drew ?_) | (with_reducible refine Below.setCell ?_ ?_ _) | (with_reducible refine Below.step (by assumption) ?_ ?_) | (with_reducible exact And.left (by assumption)) | go_size))
  have k5 : w6.heap[BO]? = some (Obj.cells #[.int .i64 fx, .int .i64 fy, .int .i64 fz, .int .i64 st, .int .i64 cx, .int .i64 cy, .int .i64 cz, .int .i64 vl, .int .i64 vh, .slice none 0 0] 125) := by rw [hW, hBO, Below.heap_alloc _ _ _ (by simp)]; exact heap_alloc_new _ _
  have k4 : w6.heap[X4]? = some (.cells #[.bool false] 4) := by
    rw [hW, hX4, hBO]
    have := heap_alloc_new (w.alloc (Obj.cells #[.int .i64 fx, .int .i64 fy, .int .i64 fz, .int .i64 st, .int .i64 cx, .int .i64 cy, .int .i64 cz, .int .i64 vl, .int .i64 vh, .slice none 0 0] 125)) (Obj.cells #[.bool false] 4)
    simpa using this
  have hz6 : w6.heap.size = BO + 2 := by rw [hW, hBO]; simp
  have hwB : w.heap.size ≤ BO := by omega
  have HB := Lib.hid hb6
  have HLB := Lib.hid (fun (b : Nat) (h : b < w.heap.size) => show b < BO by omega)
  rw [← hBO]
  simp only [← hX4]
  have hx4 : BO < X4 := by omega
  have hx5 : X4 < BO + 2 := by omega
  have hW6 := Lib.hid (show w6.heap.size = BO + 2 from hz6)
  clear hW hb6 hBO hX4 hz6
  go_loopw [16] (fun i wr => ∃ (j : Nat) (av : Option Addr) (cv : Nat), i = .int .i64 (j : Int) ∧ j ≤ k ∧ Hid (wr.heap[BO]? = some (Obj.cells #[.int .i64 fx, .int .i64 fy, .int .i64 fz, .int .i64 st, .int .i64 cx, .int .i64 cy, .int .i64 cz, .int .i64 vl, .int .i64 vh, .slice av j cv] 125)) ∧ Hid (wr.ownsRow (BO + 2) 40 5 (.slice av j cv) j (ecells e5 ((S.map (sAt l)).take j))) ∧ Hid (Below BO w6 wr) ∧ Hid (wr.heap[X4]? = some (.cells #[.bool false] 4)) ∧ BO + 2 ≤ wr.heap.size) (fun i _ => k - (intOf i).toNat)
  case atStart => exact ⟨0, none, 0, rfl, Nat.zero_le _, Lib.hid k5, Lib.hid (World.ownsRow_nil _ _ _ _), Lib.hid (Below.refl _ _), Lib.hid k4, by have := hW6.out; omega⟩
  case round =>
    obtain ⟨j, av, cv, rfl, hj, hK5, hO, hB, hK4, hzr⟩ := hrel
    have i0 : (0 : Int) ≤ (j : Int) := by omega
    have HBW := Lib.hid (HB.out.trans (hB.out.mono hwB))
    by_cases hltj : j < k
    · have i1 : (j : Int) < (k : Int) := by omega
      obtain ⟨bS, oS, rfl, hbSw, cSw⟩ := nats_at HIS.out hltj
      have hbS' : bS < BO := HLB.out _ hbSw
      have cS : wr.cell? ⟨bS, oS + j, none⟩ = some (.int .i64 (S.getD j 0 : Nat)) := by rw [cellB HBW.out _ _ hbSw]; exact cSw
      have hbS : bS < wr.heap.size := by omega
      have hjS : j < S.length := by rw [HKL.out]; exact hltj
      have hgd : S.getD j 0 = S[j]'hjS := by rw [List.getD_eq_getElem?_getD, List.getElem?_eq_getElem hjS]; rfl
      rw [hgd] at cS
      have hin := HLT.out _ (List.getElem_mem hjS)
      have hMT := take_map_snoc (sAt l) (List.getElem?_eq_getElem hjS)
      generalize S[j]'hjS = x at *
      obtain ⟨b0, o0, rfl, hb0, hcs⟩ := (HSL.out.below HBW.out).addr (by omega)
      have hb0' : b0 < BO := by
        obtain ⟨b1, o1, e, hb1, _⟩ := HSL.out.addr (by omega)
        simp only [Option.some.injEq, Addr.mk.injEq] at e
        exact HLB.out _ (by omega)
      obtain ⟨⟨sx, sy, sz', tl, th⟩, hx⟩ := ER.get HSL.out hin
      obtain ⟨q0, q1, q2, q3, q4⟩ := hcs x _ hx
      have hT := Lib.hid (show ecells e5 ((S.map (sAt l)).take (j + 1)) = ecells e5 ((S.map (sAt l)).take j) ++ [.int .i64 sx, .int .i64 sy, .int .i64 sz', .int .i64 tl, .int .i64 th] by rw [← List.map_take, hMT, List.map_take, sAt_getE hx, ecells_append, ecells_one]; rfl)
      have ix0 : (0 : Int) ≤ (x : Int) := by omega
      have ix1 : (x : Int) < (n : Int) := by omega
      simp only at q0 q1 q2 q3 q4
      have y9 : wr.cell? ⟨BO, 9, none⟩ = some (.slice av j cv) := blk_cell hK5.out (i := 9) rfl
      have g9 := blk_fz hK5.out 9
      have lb : BO < wr.heap.size := by omega
      clear hcs hx hMT hjS hgd cSw hbSw
      go_wp2_with fail
      refine wp_region_laterZ (B := BO + 1) [0, 1, 2, 3, 4, 5, 6] [7, 8, 9, 10, 11] 11 (by kernel_rfl) (by kernel_rfl) ?_; simp only [List.filterMap_cons, List.filterMap_nil, List.getElem?_cons_zero, List.getElem?_cons_succ]; repeat (show wpQuiet _ _ _ _ (_ :: _) _; go_big_quiet_step (fail))
      refine wpQuiet_nil ?_
      refine tailZ_cons ?_
      go_wp2_with fail
      have HNb := Lib.hid (show Below (BO + 2) wr (wr.alloc (Obj.cells #[.int .i64 sx, .int .i64 sy, .int .i64 sz', .int .i64 tl, .int .i64 th] 40)).drew by (repeat' (first | (with_reducible exact Below.refl _ _) | (with_reducible assumption) | (with_reducible refine Below.drewN ?_ _) | (with_reducible refine Below.alloc ?_ ?_ _) | (with_reducible refine Below.drew ?_) | (with_reducible refine Below.setCell ?_ ?_ _) | (with_reducible refine Below.step (by assumption) ?_ ?_) | (with_reducible exact And.left (by assumption)) | go_size)))
      refine tailL_mk (HNb.out.mono (by omega)) ?_
      refine tailZ_cons ?_
      go_wp2_with (at_builtin; refine wpList_append_sl _ rfl _ _ 36 rfl (BO + 2) 40 _ 5 40 Tryz.underlying36 infoSen rfl (by omega) (.slice av j cv) j _ rfl ((hO.out.alloc _).drew) _ 1 1 [.int .i64 sx, .int .i64 sy, .int .i64 sz', .int .i64 tl, .int .i64 th] rfl (SlR.lit _ _ _ _ _ 1 5 (by rfl) (by simp) rfl (by omega)) (by simp [Value.oneCell']) (by omega) (by omega) (by simp; omega) ?_)
      intro v2 wz hownz _ hbz
      obtain ⟨av2, cv2, rfl, _, _⟩ := owns_slice hownz
      rw [← hT.out] at hownz
      have hbz' : Below (BO + 2) wr wz := HNb.out.trans hbz
      have hzz := hbz'.size
      have HKZ := Lib.hid ((hbz'.block BO (by omega)).trans hK5.out)
      have HK4 := Lib.hid ((hbz'.block X4 hx5).trans hK4.out)
      have coz : wz.cell? ⟨BO, 9, none⟩ = some (.slice av j cv) := blk_cell HKZ.out (i := 9) rfl
      have foz := blk_fz HKZ.out 9
      have loz : BO < wz.heap.size := by omega
      have HOZ := Lib.hid hownz
      have HBZ := Lib.hid hbz'
      clear hownz hbz hbz' y9 g9 lb hT q0 q1 q2 q3 q4 cS hb0 hbS
      go_wp2_with fail
      refine tailL_mk (HBZ.out.mono (by omega)) ?_
      refine tailZ_cons ?_
      go_wp2_with fail
      refine tailL_mk (HBZ.out.mono (by omega)) ?_
      refine tailZ_cons ?_
      go_wp2_with fail
      refine tailL_mk (HBZ.out.mono (by omega)) ?_
      refine tailZ_last ?_
      go_wp2_with fail
      refine tailZ_end ?_
      go_wp2
      go_roundw
      case rel => exact ⟨j + 1, av2, cv2, by go_num, by omega, Lib.hid (blk_set HKZ.out 9 _), Lib.hid (ownsRow_setCell_below HOZ.out (a := ⟨BO, 9, none⟩) (by show BO < BO + 2; omega) _), Lib.hid (Below.setCell (hB.out.trans (HBZ.out.mono (by omega))) (by simp) _), Lib.hid ((heap_set_neE (show X4 ≠ BO by omega)).trans HK4.out), by simp; omega⟩
      case measure => simp [intOf]; omega
    · obtain rfl : k = j := by omega
      have hO := hO.out
      rw [List.take_of_length_le (by rw [List.length_map, HKL.out]; omega)] at hO
      have HSS := Lib.hid (show SenR wr av k (S.map (sAt l)) from ER.of_owns (by rw [List.length_map]; exact HKL.out) hO)
      have HK5 := hK5
      have h0c := cell_of_row _ _ 0 _ _ _ hK5.out
      have h1c := cell_of_row _ _ 1 _ _ _ hK5.out
      have h2c := cell_of_row _ _ 2 _ _ _ hK5.out
      have h3c := cell_of_row _ _ 3 _ _ _ hK5.out
      have h4c := cell_of_row _ _ 4 _ _ _ hK5.out
      have h5c := cell_of_row _ _ 5 _ _ _ hK5.out
      have h6c := cell_of_row _ _ 6 _ _ _ hK5.out
      have h7c := cell_of_row _ _ 7 _ _ _ hK5.out
      have h8c := cell_of_row _ _ 8 _ _ _ hK5.out
      have h9c := cell_of_row _ _ 9 _ _ _ hK5.out
      simp only [List.getElem?_toArray, List.getElem?_cons_zero, List.getElem?_cons_succ] at h0c h1c h2c h3c h4c h5c h6c h7c h8c h9c
      have lb : BO < wr.heap.size := by omega
      clear hO k5 k4 hB HB HIS HLT HKL HSL
      go_wp2_with fail
      clear h0c h1c h2c h3c h4c h5c h6c h7c h8c h9c
      refine (wpIn_wide (n := 3)).1 ?_
      refine range_two (gf := 63) (fst := #[.agg #[.int .i64 fx, .int .i64 fy, .int .i64 fz, .int .i64 st, .int .i64 cx, .int .i64 cy, .int .i64 cz, .int .i64 vl, .int .i64 vh, .slice av k cv]]) (lst := #[]) rfl cf_cells ?_
      intro rec hst hpe hpa htm has hbo
      obtain ⟨RD, hRD⟩ : ∃ RD : Loop, RD = { rec with state := .done, pending := some .ret } := ⟨_, rfl⟩
      have HRD := Lib.hid hRD
      clear hRD
      have hL1 : ((wr.alloc (.deferred (some []))).alloc (.loop rec)).heap[wr.heap.size + 1]? = some (.loop rec) := by
        have := World.alloc_heap_new (wr.alloc (.deferred (some []))) (.loop rec); rwa [World.size_alloc] at this
      have hK1 : ((wr.alloc (.deferred (some []))).alloc (.loop rec)).heap[wr.heap.size]? = some (.deferred (some [])) := (Below.heap_alloc _ _ _ (by simp)).trans (World.alloc_heap_new wr _)
      have hb9 : Below wr.heap.size wr ((wr.alloc (.deferred (some []))).alloc (.loop rec)) := by (repeat' (first | (with_reducible exact Below.refl _ _) | (with_reducible assumption) | (with_reducible refine Below.drewN ?_ _) | (with_reducible refine Below.alloc ?_ ?_ _) | (with_reducible refine Below.drew ?_) | (with_reducible refine Below.setCell ?_ ?_ _) | (with_reducible refine Below.step (by assumption) ?_ ?_) | (with_reducible exact And.left (by assumption)) | go_size))
      generalize (wr.alloc (.deferred (some []))).alloc (.loop rec) = w9 at *
      obtain ⟨lr, hlr⟩ : ∃ lr, lr = wr.heap.size + 1 := ⟨_, rfl⟩
      obtain ⟨D, hD⟩ : ∃ D, D = wr.heap.size := ⟨_, rfl⟩
      rw [← hlr] at hL1
      rw [← hD] at hK1
      simp only [← hlr]
      simp only [← hD]
      have x4D : X4 < D := by omega
      have dl : D < lr := by omega
      have hwD : w.heap.size ≤ D := by omega
      have hI9 : RInv lr D rec w wr w9 := ⟨hL1, hK1, (SameCells.refl wr).below hb9, hb9.size, HBW.out.trans (hb9.mono HBW.out.size)⟩
      clear hL1 hK1 hb9 hlr hD
      show CallsIn Fence.wide _ _ _ #[.agg #[.int .i64 fx, .int .i64 fy, .int .i64 fz, .int .i64 st, .int .i64 cx, .int .i64 cy, .int .i64 cz, .int .i64 vl, .int .i64 vh, .slice av k cv], .func (.yield lr) #[] #[]] _ _
      refine (callsIn_wide.2 (cells_calls _ _ _ _ _ _ cx cy cz av k cv lr
        (fun L B => RInv lr D rec w wr B ∧ ∀ c ∈ L, p c = 0)
        (fun B => B.heap[lr]? = some (.loop RD) ∧ B.heap[D]? = some (.deferred (some [])) ∧ B.heap[X4]? = some (.cells #[.bool false] 4) ∧ Below w.heap.size w B ∧ (cellsX cy cz cx).all (fun c => decide (p c = 0)) = false) w9 (by omega) (by omega) (by omega) ?_ ?_ ⟨hI9, fun c h => by cases h⟩)).mono ?_
      · rintro L A B ⟨h1, h2⟩ hb
        exact ⟨h1.below hb, h2⟩
      · rintro i j' k' A hi hj' hk' ⟨h1, h2⟩
        have HUZ := Lib.hid (cellsU_z cy cz i j' k')
        refine yield_two h1.1 hst hpe (by rw [hpa]; rfl) ?_
        obtain ⟨RB, hRB⟩ : ∃ RB : Loop, RB = { rec with state := .busy } := ⟨_, rfl⟩
        rw [← hRB]
        have HRB := Lib.hid hRB
        clear hRB
        rw [has, hbo, hpa, htm]
        clear has hbo hpa htm hst hpe
        gi_wp2
        obtain ⟨A0, hA0⟩ : ∃ A0, A0 = A.alloc (Obj.cells #[.int .i64 i, .int .i64 j', .int .i64 k'] 22) := ⟨_, rfl⟩
        rw [← hA0]
        obtain ⟨XC, hXC⟩ : ∃ X, X = A.heap.size := ⟨_, rfl⟩
        rw [← hXC]
        have hbA : Below A.heap.size A A0 := by rw [hA0]; (repeat' (first | (with_reducible exact Below.refl _ _) | (with_reducible assumption) | (with_reducible refine Below.drewN ?_ _) | (with_reducible refine Below.alloc ?_ ?_ _) | (with_reducible refine Below.drew ?_) | (with_reducible refine Below.setCell ?_ ?_ _) | (with_reducible refine Below.step (by assumption) ?_ ?_) | (with_reducible exact And.left (by assumption)) | go_size))
        have kC : A0.heap[XC]? = some (.cells #[.int .i64 i, .int .i64 j', .int .i64 k'] 22) := by rw [hA0, hXC]; exact heap_alloc_new _ _
        have hlC : lr < XC := by rw [hXC]; exact (Array.getElem?_eq_some_iff.1 h1.1).1
        have h1 := h1.below hbA
        have HAH := Lib.hid (show SameCells A A0 from (SameCells.refl A).below hbA)
        have H2 := Lib.hid h2
        clear hA0 hbA hXC h2
        have hjl := h1.1
        have hI := h1
        refine ⟨hjl, ?_⟩
        have hB1 : SameCells wr (A0.putObj lr (.loop RB)) := hI.2.2.1.put hjl
        have hB2 : wr.heap.size ≤ (A0.putObj lr (.loop RB)).heap.size := by rw [World.putObj_size]; exact hI.2.2.2.1
        have hB3 : Below w.heap.size w (A0.putObj lr (.loop RB)) := hI.2.2.2.2.trans (belowK_b (w := w) (Nat.le_refl _) A0 lr _ _ (by omega) hjl rfl rfl)
        have hB4 : (A0.putObj lr (.loop RB)).heap[lr]? = some (.loop RB) := World.putObj_heap_same (Array.getElem?_eq_some_iff.1 hjl).1
        have hB5 : (A0.putObj lr (.loop RB)).heap[D]? = some (.deferred (some [])) := (World.putObj_heap_other (by omega)).trans hI.2.1
        have hB6 : SameCells A (A0.putObj lr (.loop RB)) := HAH.out.put hjl
        have eC : (A0.putObj lr (.loop RB)).heap[XC]? = _ := (World.putObj_heap_other (show XC ≠ lr by omega)).trans kC
        generalize A0.putObj lr (.loop RB) = A1 at *
        clear hI hjl h1 kC HAH
        have kx := hB1 _ _ _ _ hK5.out
        have e4 := hB1 _ _ _ _ hK4.out
        have t0 := cell_of_row _ _ 0 _ _ _ kx
        have t1 := cell_of_row _ _ 1 _ _ _ kx
        have t2 := cell_of_row _ _ 2 _ _ _ kx
        have t3 := cell_of_row _ _ 3 _ _ _ kx
        have t4 := cell_of_row _ _ 4 _ _ _ kx
        have t5 := cell_of_row _ _ 5 _ _ _ kx
        have t6 := cell_of_row _ _ 6 _ _ _ kx
        have t7 := cell_of_row _ _ 7 _ _ _ kx
        have t8 := cell_of_row _ _ 8 _ _ _ kx
        have t9 := cell_of_row _ _ 9 _ _ _ kx
        have u0 := cell_of_row _ _ 0 _ _ _ eC
        have u1 := cell_of_row _ _ 1 _ _ _ eC
        have u2 := cell_of_row _ _ 2 _ _ _ eC
        simp only [List.getElem?_toArray, List.getElem?_cons_zero, List.getElem?_cons_succ] at t0 t1 t2 t3 t4 t5 t6 t7 t8 t9 u0 u1 u2
        have hmem : (⟨(i : Int), (j' : Int), (k' : Int)⟩ : T3) ∈ cellsX cy cz cx := cellsX_mem.2 ⟨i, j', k', hi, hj', hk', rfl⟩
        have HXS := Lib.hid (HAN.out ⟨(i : Int), (j' : Int), (k' : Int)⟩ av k cv A1 (ER.same HSS.out hB1 hB2) ((HCB.out _).2 ⟨⟨Int.natCast_nonneg _, Int.ofNat_lt.2 hi⟩, ⟨Int.natCast_nonneg _, Int.ofNat_lt.2 hj'⟩, Int.natCast_nonneg _, Int.ofNat_lt.2 hk'⟩))
        have HNO := Lib.hid (show p ⟨(i : Int), (j' : Int), (k' : Int)⟩ = 0 → ∀ c ∈ cellsU cy cz i j' (k' + 1), p c = 0 from fun h c hc => by
          rw [HUZ.out, List.mem_append] at hc
          rcases hc with hc | hc
          · exact H2.out c hc
          · rw [List.mem_singleton] at hc; rw [hc]; exact h)
        have HYE := Lib.hid (show p ⟨(i : Int), (j' : Int), (k' : Int)⟩ ≠ 0 → (cellsX cy cz cx).all (fun c => decide (p c = 0)) = false from fun h => by
          rw [List.all_eq_false]
          exact ⟨_, hmem, by simpa using h⟩)
        generalize p ⟨(i : Int), (j' : Int), (k' : Int)⟩ = pv at *
        have HF := Lib.hid (And.intro hB1 (And.intro hB2 (And.intro hB3 (And.intro hB4 (And.intro hB5 (And.intro e4 hB6))))))
        clear hB1 hB2 hB3 hB4 hB5 hB6 kx eC e4 hmem
        gi_wp2
        refine ⟨trivial, CallsIn.mono (callsIn_wide.2 HXS.out) ?_⟩
        rintro e7 w7 ⟨rfl, hb7⟩
        have HB7 := Lib.hid hb7
        have e4 := (hb7.block _ (Array.getElem?_eq_some_iff.1 HF.out.2.2.2.2.2.1).1).trans HF.out.2.2.2.2.2.1
        have y4 := cell_of_row _ _ 0 _ _ _ e4
        have f4 := frozen_of_row _ _ 0 _ _ e4
        simp only [List.getElem?_toArray, List.getElem?_cons_zero] at y4
        have l4 : X4 < w7.heap.size := (Array.getElem?_eq_some_iff.1 e4).1
        have HE4 := Lib.hid e4
        clear hb7 e4 HXS t0 t1 t2 t3 t4 t5 t6 t7 t8 t9 u0 u1 u2
        by_cases hpv : pv = 0
        · subst hpv
          have HNN := Lib.hid (HNO.out (by first | rfl | trivial))
          clear HNO HYE
          gi_wp2
          obtain ⟨hB1, hB2, hB3, hB4, hB5, e4, hB6⟩ := HF.out
          have hb7 := HB7.out
          have g4 := (hb7.block _ (Array.getElem?_eq_some_iff.1 hB4).1).trans hB4
          have g5 := (hb7.block _ (Array.getElem?_eq_some_iff.1 hB5).1).trans hB5
          exact ⟨by rw [← HRB.out]; exact g4, .inl ⟨rfl, ⟨RInv.ready (A1 := A1) (hB1.below hb7) (Nat.le_trans hB2 hb7.size) (hB3.trans (hb7.mono hB3.size)) g4 g5 (by omega), HNN.out⟩, fun B cc zz _ hk => ((hB6.below hb7).put g4) _ _ _ _ hk⟩⟩
        · have hpv1 := bne_iff_ne.2 hpv
          have HALL := Lib.hid (HYE.out hpv)
          clear HNO HYE hpv
          gi_wp2
          obtain ⟨hB1, hB2, hB3, hB4, hB5, e4, hB6⟩ := HF.out
          have hb7 := HB7.out
          have g4 := (hb7.block _ (Array.getElem?_eq_some_iff.1 hB4).1).trans hB4
          have g5 := (hb7.block _ (Array.getElem?_eq_some_iff.1 hB5).1).trans hB5
          have n4l : lr ≠ X4 := by omega
          have n4D : D ≠ X4 := by omega
          have nlD : D ≠ lr := by omega
          have hx4w : w.heap.size ≤ X4 := by omega
          have g4' := (heap_set_ne (v := Value.bool false) n4l).trans g4
          have g5' := (heap_set_ne (v := Value.bool false) n4D).trans g5
          have hbW : Below w.heap.size w (w7.setCell ⟨X4, 0, none⟩ (.bool false)) := (hB3.trans (hb7.mono hB3.size)).setCell hx4w _
          refine ⟨by rw [← HRB.out]; exact g4', .inr ⟨rfl, by rw [← HRD.out]; exact World.putObj_heap_same (Array.getElem?_eq_some_iff.1 g4').1, (World.putObj_heap_other nlD).trans g5', (World.putObj_heap_other n4l.symm).trans (cells_set HE4.out), hbW.trans (belowK_b (w := w) (Nat.le_refl _) _ lr _ _ (by omega) g4' rfl rfl), HALL.out⟩⟩
      · rintro e W ⟨⟨v, rfl⟩, (⟨hI, hall⟩ | ⟨h1, h2, h3, h4, h5⟩)⟩
        · refine ⟨⟨_, rfl⟩, .inl ⟨hI.1, ?_⟩⟩
          have hS := hI.2.2.1.put (r' := { rec with state := .exhausted }) hI.1
          have hBw : Below w.heap.size w (W.putObj lr (.loop { rec with state := .exhausted })) := hI.2.2.2.2.trans (belowK_b (w := w) (Nat.le_refl _) W lr _ _ (by omega) hI.1 rfl rfl)
          have hM : MK w [D] (W.putObj lr (.loop { rec with state := .exhausted })) := MK.put (r := rec) ⟨by simp, fun E hE => by simp at hE; subst hE; exact ⟨hwD, hI.2.1⟩⟩ hI.1
          generalize W.putObj lr (.loop { rec with state := .exhausted }) = W2 at *
          have HALL := Lib.hid (show (cellsX cy cz cx).all (fun c => decide (p c = 0)) = true from List.all_eq_true.2 (fun c hc => by simpa using hall c hc))
          have e4 := hS _ _ _ _ hK4.out
          have y4 := cell_of_row _ _ 0 _ _ _ e4
          have f4 := frozen_of_row _ _ 0 _ _ e4
          simp only [List.getElem?_toArray, List.getElem?_cons_zero] at y4
          have l4 : X4 < W2.heap.size := (Array.getElem?_eq_some_iff.1 e4).1
          have HE4 := Lib.hid e4
          clear hI hall hst hpe hpa htm has hbo HRD e4 hS
          go_wp2_with fail
          have hx4w : w.heap.size ≤ X4 := by omega
          have hbW : Below w.heap.size w (W2.setCell ⟨X4, 0, none⟩ (.bool true)) := hBw.setCell hx4w _
          have hMW : MK w [D] (W2.setCell ⟨X4, 0, none⟩ (.bool true)) := hM.set HE4.out
          have hX4 := cells_set (v := Value.bool true) HE4.out
          generalize W2.setCell ⟨X4, 0, none⟩ (.bool true) = WF at *
          refine leaves_marks (B := w.heap.size) (w0 := w) [D] WF hMW.1 hMW.2 hbW (fun w' hs hb' => ⟨.bool true, ?_, by rw [HALL.out], hb'⟩)
          have c4 := cell_of_row _ _ 0 _ _ _ (hs _ _ _ _ hX4)
          simp only [List.getElem?_toArray, List.getElem?_cons_zero] at c4
          simp [results, Tryz.results65, go_sem, c4]
        · refine ⟨⟨_, rfl⟩, .inr ⟨by rw [h1, HRD.out], ?_⟩⟩
          have nlD : D ≠ lr := by omega
          have n4l : X4 ≠ lr := by omega
          have g2 : (W.putObj lr (.loop { rec with state := .exhausted, pending := some .ret })).heap[D]? = some (.deferred (some [])) := (World.putObj_heap_other nlD).trans h2
          have g3 : (W.putObj lr (.loop { rec with state := .exhausted, pending := some .ret })).heap[X4]? = some (.cells #[.bool false] 4) := (World.putObj_heap_other n4l).trans h3
          have g4 : Below w.heap.size w (W.putObj lr (.loop { rec with state := .exhausted, pending := some .ret })) := h4.trans (belowK_b (w := w) (Nat.le_refl _) W lr _ _ (by omega) h1 rfl rfl)
          generalize W.putObj lr (.loop { rec with state := .exhausted, pending := some .ret }) = W2 at *
          refine leaves_marks (B := w.heap.size) (w0 := w) [D] W2 (by simp) (fun E hE => by simp at hE; subst hE; exact ⟨hwD, g2⟩) g4 (fun w' hs hb' => ⟨.bool false, ?_, by rw [h5], hb'⟩)
          have c4 := cell_of_row _ _ 0 _ _ _ (hs _ _ _ _ g3)
          simp only [List.getElem?_toArray, List.getElem?_cons_zero] at c4
          simp [results, Tryz.results65, go_sem, c4]
end Go.Proofs.YtdklmcicogmeaaaGreat

/- The sensors that contradict each other: the program's function. -/
namespace Go.Proofs.YtdklmcicogmeaaaGreat
open Go.RowKit Go.Shelf
set_option linter.unusedVariables false
attribute [local go_sem] Oper.semAt_some

/-- The first set of at least two sensors that excludes every cell. -/
def ctrO (g : Gri) (A : Arr) : Option (List Nat) := ctrS (fun S => emptyB g (subA A S)) A.l.length (A.l.length - 1) 2
def ctrV (g : Gri) (A : Arr) : List Nat × Int := if hE g A ≠ 0 then ([], hE g A) else match ctrO g A with | some S => (S, 0) | none => ([], 12)
theorem nats_sub {A : Arr} {S : List Nat} (h : ∀ i ∈ S, i < A.l.length) {k : Nat} (hk : k < S.length) : sAt (S.map (sAt A.l)) k = sAt A.l (S.getD k 0) := by
  unfold sAt
  rw [List.getD_eq_getElem?_getD, List.getElem?_map, List.getElem?_eq_getElem hk, List.getD_eq_getElem?_getD (l := S), List.getElem?_eq_getElem hk]; rfl
/-- Some of valid sensors are valid. -/
theorem arrE_sub {A : Arr} {S : List Nat} (ha : (arrE A).2 = 0) (h : ∀ i ∈ S, i < A.l.length) (h2 : 2 ≤ S.length) (h5 : S.length ≤ 5) : (arrE (subA A S)).2 = 0 := by
  obtain ⟨_, hv, hn2, hn5, hss⟩ := arrE_zero ha
  have hh : arrH (subA A S) = 0 := by
    unfold arrH subA
    simp only [List.length_map]
    rw [decide_eq_true (show (2 : Int) ≤ (S.length : Int) by omega), decide_eq_true (show (S.length : Int) ≤ 5 by omega)]
    unfold rngEE
    dsimp only
    rw [wi_iff.2 (show 1 ≤ A.lo ∧ A.lo ≤ 10000 by omega), wi_iff.2 (show 1 ≤ A.hi ∧ A.hi ≤ 10000 by omega), decide_eq_true (show A.lo ≤ A.hi by omega)]
    rfl
  unfold arrE
  rw [if_neg (by rw [hh]; decide), firstAt_all]
  intro k _ hk
  unfold subA at hk ⊢
  simp only [List.length_map] at hk ⊢
  have hk' : k < S.length := by omega
  have hm : S.getD k 0 < A.l.length := h _ (by rw [List.getD_eq_getElem?_getD, List.getElem?_eq_getElem hk']; exact List.getElem_mem hk')
  obtain ⟨g1, g2, g3, g4⟩ := hss _ hm
  unfold senE
  rw [nats_sub h hk', g1]
  unfold rngEE
  dsimp only
  rw [wi_iff.2 (show 0 ≤ (sAt A.l (S.getD k 0)).lo ∧ (sAt A.l (S.getD k 0)).lo ≤ 1000000 by omega), wi_iff.2 (show 0 ≤ (sAt A.l (S.getD k 0)).hi ∧ (sAt A.l (S.getD k 0)).hi ≤ 1000000 by omega), decide_eq_true g3]
  rfl
theorem SlR.sameY {w w' : World} {a : Option Addr} {n sz : Nat} {xs : List Value} (h : SlR w a n sz xs) (hz : 0 < sz) (hs : SameCells w w') : SlR w' a n sz xs := by
  refine ⟨h.1, h.2.1, fun hn => ?_⟩
  obtain ⟨b, o, ha, hlt, hc⟩ := h.2.2 hn
  refine ⟨b, o, ha, ?_, fun i u hu => hs.cell (hc i u hu)⟩
  have hx : 0 < xs.length := by rw [h.1]; exact Nat.mul_pos hn hz
  obtain ⟨c, t, z, hb⟩ := blk_of_cell (hc 0 xs[0] (List.getElem?_eq_getElem hx))
  exact (Array.getElem?_eq_some_iff.1 (hs _ _ _ _ hb)).1
theorem find_pre {p : List Nat → Bool} {L T : List (List Nat)} {S : List Nat} (h : (L ++ [S]) <+: T) (hL : ∀ x ∈ L, p x = false) (hp : p S = true) : T.find? p = some S := by
  obtain ⟨R, rfl⟩ := h
  rw [List.append_assoc, List.find?_append, List.find?_eq_none.2 (fun x hx => by rw [hL x hx]; decide)]
  simp [hp]
theorem snoc_false {p : List Nat → Bool} {L : List (List Nat)} {S : List Nat} (hL : ∀ x ∈ L, p x = false) (hp : p S = false) : ∀ x ∈ L ++ [S], p x = false := fun x hx => by
  rcases List.mem_append.1 hx with h | h
  · exact hL x h
  · rw [List.mem_singleton.1 h]; exact hp
theorem keepI_set {A : World} {b : Nat} {t : TypeId} {x v : Value} (h : A.heap[b]? = some (.cells #[x] t)) (ht : t ≠ 3) : ∀ (B : Nat) cur z, A.heap[B]? = some (Obj.cells cur 3 z) → (A.setCell ⟨b, 0, none⟩ v).heap[B]? = some (Obj.cells cur 3 z) := fun B cur z hB => by
  rw [heap_set_ne (by rintro rfl; rw [h] at hB; simp only [Option.some.injEq, Obj.cells.injEq] at hB; exact ht hB.2.1)]
  exact hB
set_option maxHeartbeats 4000000 in
set_option maxRecDepth 100000 in
theorem contradicting_any (g : Gri) (A : Arr) (a : Option Addr) (n cap : Nat) (w : World) (hl : SenR w a n A.l) :
    Calls Tryz.prog 21 #[.agg #[.int .i64 g.f.x, .int .i64 g.f.y, .int .i64 g.f.z, .int .i64 g.st, .int .i64 g.c.x, .int .i64 g.c.y, .int .i64 g.c.z], .agg #[.int .i64 A.lo, .int .i64 A.hi, .slice a n cap]] w
      fun e' w' => ∃ a' k' c', e' = .returned (.tuple #[.slice a' k' c', .int .i64 (ctrV g A).2]) ∧ Below w.heap.size w w' ∧ IntsR w' a' k' (nats (ctrV g A).1) := by
  have HH := Lib.hid (fun (W : World) (hb : Below w.heap.size w W) => hear_any g A a n cap W (hl.below hb))
  have HEQ := Lib.hid (show firstErr [griE g, (arrE A).2] = hE g A from rfl)
  rw [HEQ.out] at HH
  by_cases h0 : hE g A = 0
  · obtain ⟨hg, ha⟩ := hE_zero h0
    have hV : ctrV g A = match ctrO g A with | some S => (S, 0) | none => ([], 12) := by unfold ctrV; rw [if_neg (by rw [h0]; decide)]
    have hn2 := (arrE_zero ha).2.2.1
    have hn5 := (arrE_zero ha).2.2.2.1
    rw [hl.len] at hn2 hn5
    obtain ⟨V, hVV⟩ : ∃ V, V = ctrO g A := ⟨_, rfl⟩
    rw [← hVV] at hV
    rw [hV]
    rw [h0] at HH
    obtain ⟨p, hp⟩ : ∃ p : List Nat → Bool, p = fun S => emptyB g (subA A S) := ⟨_, rfl⟩
    have HV := Lib.hid (show V = ctrS p n (n - 1) 2 by rw [hVV, hp]; unfold ctrO; rw [hl.len])
    have HEM := Lib.hid (fun (S : List Nat) (a' aS : Option Addr) (c' k cS : Nat) (W : World) (hs : SenR W a' n A.l) (hS : IntsR W aS k (nats S)) (hlt : ∀ i ∈ S, i < n) (h2 : 2 ≤ S.length) (h5 : S.length ≤ 5) => show Calls Tryz.prog 65 #[.agg #[.int .i64 g.f.x, .int .i64 g.f.y, .int .i64 g.f.z, .int .i64 g.st, .int .i64 g.c.x, .int .i64 g.c.y, .int .i64 g.c.z, .int .i64 A.lo, .int .i64 A.hi, .slice a' n c'], .slice aS k cS] W fun e' w' => e' = .returned (.bool (p S)) ∧ Below W.heap.size W w' by
      rw [hp]
      exact isEmpty_any g A S a' aS n c' k cS W hs hS hg (arrE_sub ha (by rw [hl.len]; exact hlt) h2 h5) hlt)
    have HSL := Lib.hid hl
    clear hV h0 HEQ hVV hp hg ha hl
    obtain ⟨⟨fx, fy, fz⟩, st, ⟨gx, gy, gz⟩⟩ := g
    obtain ⟨vl, vh, l⟩ := A
    simp only at *
    refine (callsIn_wide (n := 3)).1 ?_
    refine callsIn_of_wp_marks Tryz.func21 rfl trivial ?_ rfl
    simp only [Tryz.ntmps21, List.size_toArray, List.length_cons, List.length_nil, Nat.reduceAdd, Nat.reduceSub, Array.replicate_succ, Array.replicate_zero, List.push_toArray, List.append_toArray, List.nil_append, List.cons_append]
    refine (wpIn_wide (n := 3)).2 ?_
    go_wp2_with fail
    obtain ⟨w4, hW⟩ : ∃ w4, w4 = (((w.alloc (Obj.cells #[.int .i64 fx, .int .i64 fy, .int .i64 fz, .int .i64 st, .int .i64 gx, .int .i64 gy, .int .i64 gz] 24)).alloc (Obj.cells #[.int .i64 vl, .int .i64 vh, .slice a n cap] 38)).alloc (Obj.cells #[.slice none 0 0] 27)).alloc (Obj.cells #[.int .i64 0] 43) := ⟨_, rfl⟩
    rw [← hW]
    have hb4 : Below w.heap.size w w4 := by rw [hW]; (repeat' (first | (with_reducible exact Below.refl _ _) | (with_reducible assumption) | (with_reducible refine Below.drewN ?_ _) | (with_reducible refine Below.alloc ?_ ?_ _) | (with_reducible refine Below.drew ?_) | (with_reducible refine Below.setCell ?_ ?_ _) | (with_reducible refine Below.step (by assumption) ?_ ?_) | (with_reducible exact And.left (by assumption)) | go_size))
    have k3 : w4.heap[w.heap.size + 1]? = some (.cells #[.int .i64 vl, .int .i64 vh, .slice a n cap] 38) := by
      rw [hW, Below.heap_alloc _ _ _ (by first | (simp; done) | (simp; omega)), Below.heap_alloc _ _ _ (by first | (simp; done) | (simp; omega))]
      have := heap_alloc_new (w.alloc (Obj.cells #[.int .i64 fx, .int .i64 fy, .int .i64 fz, .int .i64 st, .int .i64 gx, .int .i64 gy, .int .i64 gz] 24)) (Obj.cells #[.int .i64 vl, .int .i64 vh, .slice a n cap] 38)
      simpa using this
    have k4 : w4.heap[w.heap.size + 1 + 1]? = some (.cells #[.slice none 0 0] 27) := by
      rw [hW, Below.heap_alloc _ _ _ (by simp)]
      have := heap_alloc_new ((w.alloc (Obj.cells #[.int .i64 fx, .int .i64 fy, .int .i64 fz, .int .i64 st, .int .i64 gx, .int .i64 gy, .int .i64 gz] 24)).alloc (Obj.cells #[.int .i64 vl, .int .i64 vh, .slice a n cap] 38)) (Obj.cells #[.slice none 0 0] 27)
      simpa using this
    have k5 : w4.heap[w.heap.size + 1 + 1 + 1]? = some (.cells #[.int .i64 0] 43) := by
      rw [hW]
      have := heap_alloc_new (((w.alloc (Obj.cells #[.int .i64 fx, .int .i64 fy, .int .i64 fz, .int .i64 st, .int .i64 gx, .int .i64 gy, .int .i64 gz] 24)).alloc (Obj.cells #[.int .i64 vl, .int .i64 vh, .slice a n cap] 38)).alloc (Obj.cells #[.slice none 0 0] 27)) (Obj.cells #[.int .i64 0] 43)
      simpa using this
    have hz4 : w4.heap.size = w.heap.size + 4 := by rw [hW]; simp
    obtain ⟨X2, hX2⟩ : ∃ X, X = w.heap.size := ⟨_, rfl⟩
    obtain ⟨X3, hX3⟩ : ∃ X, X = X2 + 1 := ⟨_, rfl⟩
    obtain ⟨X4, hX4⟩ : ∃ X, X = X3 + 1 := ⟨_, rfl⟩
    obtain ⟨X5, hX5⟩ : ∃ X, X = X4 + 1 := ⟨_, rfl⟩
    have hx2 : w.heap.size ≤ X2 := by omega
    rw [← hX2, ← hX3] at k3
    rw [← hX2, ← hX3, ← hX4] at k4
    rw [← hX2, ← hX3, ← hX4, ← hX5] at k5
    rw [← hX2] at hz4
    simp only [← hX2, ← hX3, ← hX4, ← hX5]
    have x23 : X2 < X3 := by omega
    have x34 : X3 < X4 := by omega
    have x45 : X4 < X5 := by omega
    have x5 : X5 < w4.heap.size := by omega
    have HB4 := Lib.hid hb4
    clear hW hb4 hX2 hX3 hX4 hX5 hz4
    refine (HH.out _ HB4.out).mono ?_
    rintro e5 w5 ⟨rfl, hb5⟩
    have hz5 := hb5.size
    have k3 := blk_below k3 hb5
    have k4 := blk_below k4 hb5
    have k5 := blk_below k5 hb5
    have HB5 := Lib.hid (HB4.out.trans (hb5.mono HB4.out.size))
    have x5 : X5 < w5.heap.size := by omega
    clear hb5 hz5 HH HB4
    go_wp2_with fail
    obtain ⟨X6, hX6⟩ : ∃ X, X = w5.heap.size := ⟨_, rfl⟩
    rw [← hX6]
    generalize hWq : w5.alloc (Obj.cells #[.int .i64 fx, .int .i64 fy, .int .i64 fz, .int .i64 st, .int .i64 gx, .int .i64 gy, .int .i64 gz, .int .i64 vl, .int .i64 vh, .slice a n cap] 125) = wq
    have hbq : Below w5.heap.size w5 wq := by rw [← hWq]; (repeat' (first | (with_reducible exact Below.refl _ _) | (with_reducible assumption) | (with_reducible refine Below.drewN ?_ _) | (with_reducible refine Below.alloc ?_ ?_ _) | (with_reducible refine Below.drew ?_) | (with_reducible refine Below.setCell ?_ ?_ _) | (with_reducible refine Below.step (by assumption) ?_ ?_) | (with_reducible exact And.left (by assumption)) | go_size))
    have k6 : wq.heap[X6]? = some (.cells #[.int .i64 fx, .int .i64 fy, .int .i64 fz, .int .i64 st, .int .i64 gx, .int .i64 gy, .int .i64 gz, .int .i64 vl, .int .i64 vh, .slice a n cap] 125) := by rw [← hWq, hX6]; exact heap_alloc_new _ _
    have k3 := blk_below k3 hbq
    have k4 := blk_below k4 hbq
    have k5 := blk_below k5 hbq
    have HBq := Lib.hid (HB5.out.trans (hbq.mono HB5.out.size))
    have x56 : X5 < X6 := by omega
    have hzq : X6 < wq.heap.size := by rw [← hWq, hX6]; simp
    clear hWq hbq hX6 HB5
    have HSLq := Lib.hid (HSL.out.below HBq.out)
    obtain ⟨I, hI⟩ : ∃ I : Act → World → Prop, I = fun A W => ∃ (k : Nat) (Ds : List Nat) (u19 u20 u21 u22 u23 u24 u25 u26 u27 u28 u29 u30 : Value), A = { tmps := #[.agg #[.int .i64 fx, .int .i64 fy, .int .i64 fz, .int .i64 st, .int .i64 gx, .int .i64 gy, .int .i64 gz], .agg #[.int .i64 vl, .int .i64 vh, .slice a n cap], .pointer (some ⟨X2, 0, none⟩), .pointer (some ⟨X3, 0, none⟩), .pointer (some ⟨X4, 0, none⟩), .pointer (some ⟨X5, 0, none⟩), .pointer (some ⟨X6, 0, none⟩), .int .i64 0, .int .i64 (k : Int), undef, .tuple #[.agg #[.int .i64 fx, .int .i64 fy, .int .i64 fz, .int .i64 st, .int .i64 gx, .int .i64 gy, .int .i64 gz, .int .i64 vl, .int .i64 vh, .slice a n cap], .int .i64 0], .agg #[.int .i64 fx, .int .i64 fy, .int .i64 fz, .int .i64 st, .int .i64 gx, .int .i64 gy, .int .i64 gz], .agg #[.int .i64 vl, .int .i64 vh, .slice a n cap], .tuple #[.agg #[.int .i64 fx, .int .i64 fy, .int .i64 fz, .int .i64 st, .int .i64 gx, .int .i64 gy, .int .i64 gz, .int .i64 vl, .int .i64 vh, .slice a n cap], .int .i64 0], .agg #[.int .i64 fx, .int .i64 fy, .int .i64 fz, .int .i64 st, .int .i64 gx, .int .i64 gy, .int .i64 gz, .int .i64 vl, .int .i64 vh, .slice a n cap], .int .i64 0, .int .i64 0, .bool false, undef, u19, u20, u21, u22, u23, u24, u25, u26, u27, u28, u29, u30, undef, undef, undef, undef, undef], defers := Ds.map mark } ∧ 2 ≤ k ∧ k ≤ n + 1 ∧ V = ctrS p n (n + 1 - k) k ∧ SameCells wq W ∧ wq.heap.size ≤ W.heap.size ∧ Below w.heap.size w W ∧ MK w Ds W := ⟨_, rfl⟩
    obtain ⟨μ, hμ⟩ : ∃ μ : Act → World → Nat, μ = fun A _ => n + 1 - (intOf (A.tmps.getD 8 undef)).toNat := ⟨_, rfl⟩
    have HI := Lib.hid hI
    have HM := Lib.hid hμ
    clear hI hμ
    refine wp_loop I μ ?_ ?_
    · rw [HI.out]
      exact ⟨2, [], _, _, _, _, _, _, _, _, _, _, _, _, rfl, by omega, by omega, by rw [HV.out, show n + 1 - 2 = n - 1 by omega], SameCells.refl wq, Nat.le_refl _, HBq.out, ⟨List.nodup_nil, fun D hD => by simp at hD⟩⟩
    · intro A W hIA
      rw [HI.out] at hIA
      obtain ⟨k, Ds, u19, u20, u21, u22, u23, u24, u25, u26, u27, u28, u29, u30, rfl, hk2, hk, hVk, hS, hZ, hBw, hM⟩ := hIA
      have k0 : (0 : Int) ≤ (k : Int) := by omega
      have HVk := Lib.hid hVk
      have HS := Lib.hid hS
      have HBw := Lib.hid hBw
      have HMM := Lib.hid hM
      have kx := hS _ _ _ _ k3
      have v2 := cell_of_row _ _ 2 _ _ _ kx
      simp only [List.getElem?_toArray, List.getElem?_cons_zero, List.getElem?_cons_succ] at v2
      have lx3 : X3 < W.heap.size := by omega
      clear hVk hS hBw hM kx
      rcases Nat.lt_or_ge n k with hge | hlt
      · obtain rfl : k = n + 1 := by omega
        have i1 : ¬ (((n + 1 : Nat) : Int) ≤ (n : Int)) := by omega
        have e4 := HS.out _ _ _ _ k4
        have e5 := HS.out _ _ _ _ k5
        have y4 := cell_of_row _ _ 0 _ _ _ e4
        have f4 := frozen_of_row _ _ 0 _ _ e4
        have y5 := cell_of_row _ _ 0 _ _ _ e5
        have f5 := frozen_of_row _ _ 0 _ _ e5
        simp only [List.getElem?_toArray, List.getElem?_cons_zero] at y4 y5
        have l4 : X4 < W.heap.size := by omega
        have l5 : X5 < W.heap.size := by omega
        have hV2 : V = none := by rw [HVk.out, Nat.sub_self]; rfl
        subst hV2
        go_wp2_with fail
        have hMW := (HMM.out.set (v := .slice none 0 0) e4).set (v := .int .i64 12) ((heap_set_ne (show X5 ≠ X4 by omega)).trans e5)
        have hx4w : w.heap.size ≤ X4 := by omega
        have hx5w : w.heap.size ≤ X5 := by omega
        have hbW : Below w.heap.size w ((W.setCell ⟨X4, 0, none⟩ (.slice none 0 0)).setCell ⟨X5, 0, none⟩ (.int .i64 12)) := (HBw.out.setCell hx4w _).setCell hx5w _
        have g4 : ((W.setCell ⟨X4, 0, none⟩ (.slice none 0 0)).setCell ⟨X5, 0, none⟩ (.int .i64 12)).heap[X4]? = some (.cells #[.slice none 0 0] 27) := (heap_set_ne (show X4 ≠ X5 by omega)).trans (cells_set e4)
        have g5 : ((W.setCell ⟨X4, 0, none⟩ (.slice none 0 0)).setCell ⟨X5, 0, none⟩ (.int .i64 12)).heap[X5]? = some (.cells #[.int .i64 12] 43) := cells_set ((heap_set_ne (show X5 ≠ X4 by omega)).trans e5)
        generalize (W.setCell ⟨X4, 0, none⟩ (.slice none 0 0)).setCell ⟨X5, 0, none⟩ (.int .i64 12) = WF at *
        refine leaves_marks (B := w.heap.size) (w0 := w) Ds WF hMW.1 hMW.2 hbW (fun w' hs hb' => ⟨.tuple #[.slice none 0 0, .int .i64 12], ?_, none, 0, ⟨0, rfl⟩, hb', IntsR.nil _ _⟩)
        have c4 := cell_of_row _ _ 0 _ _ _ (hs _ _ _ _ g4)
        have c5 := cell_of_row _ _ 0 _ _ _ (hs _ _ _ _ g5)
        simp only [List.getElem?_toArray, List.getElem?_cons_zero] at c4 c5
        simp [results, Tryz.results21, go_sem, c4, c5]
      · have i1 : (k : Int) ≤ (n : Int) := by omega
        go_wp2_with fail
        refine (subsets_any _ _ _).mono ?_
        rintro e6 w6 ⟨rfl, hb6, hz6, hc6, hc7⟩
        go_wp2_with fail
        obtain ⟨X11, hX11⟩ : ∃ X, X = W.heap.size := ⟨_, rfl⟩
        try simp only [World.size_alloc] at hb6 hz6 hc6 hc7
        rw [← hX11] at hb6 hz6 hc6 hc7
        have hb6' : Below W.heap.size W w6 := by rw [← hX11]; exact hb6
        rw [← hX11]
        have hS6 := HS.out.below hb6'
        have hZ6 : wq.heap.size ≤ w6.heap.size := by omega
        have hM6 := HMM.out.below hb6'
        have hBw6 := HBw.out.trans (hb6'.mono HBw.out.size)
        have c6 := cell_of_row _ _ 0 _ _ _ hc6
        have c7 := cell_of_row _ _ 0 _ _ _ hc7
        simp only [List.getElem?_toArray, List.getElem?_cons_zero] at c6 c7
        have x611 : X6 < X11 := by omega
        have hw11 : w.heap.size ≤ X11 := by omega
        clear hb6 hb6' HS HMM HBw hc6 hc7
        refine (wpIn_wide (n := 3)).1 ?_
        refine range_two (gf := 114) (fst := #[]) (lst := #[.pointer (some ⟨X11, 0, none⟩), .pointer (some ⟨X11 + 1, 0, none⟩)]) rfl cf_subsets1 ?_
        intro rec hst hpe hpa htm has hbo
        obtain ⟨RD, hRD⟩ : ∃ RD : Loop, RD = { rec with state := .done, pending := some .ret } := ⟨_, rfl⟩
        have HRD := Lib.hid hRD
        clear hRD
        have hL1 : ((w6.alloc (.deferred (some []))).alloc (.loop rec)).heap[w6.heap.size + 1]? = some (.loop rec) := by
          have := World.alloc_heap_new (w6.alloc (.deferred (some []))) (.loop rec); rwa [World.size_alloc] at this
        have hK1 : ((w6.alloc (.deferred (some []))).alloc (.loop rec)).heap[w6.heap.size]? = some (.deferred (some [])) := (Below.heap_alloc _ _ _ (by simp)).trans (World.alloc_heap_new w6 _)
        have hb9 : Below w6.heap.size w6 ((w6.alloc (.deferred (some []))).alloc (.loop rec)) := by (repeat' (first | (with_reducible exact Below.refl _ _) | (with_reducible assumption) | (with_reducible refine Below.drewN ?_ _) | (with_reducible refine Below.alloc ?_ ?_ _) | (with_reducible refine Below.drew ?_) | (with_reducible refine Below.setCell ?_ ?_ _) | (with_reducible refine Below.step (by assumption) ?_ ?_) | (with_reducible exact And.left (by assumption)) | go_size))
        generalize (w6.alloc (.deferred (some []))).alloc (.loop rec) = w9 at *
        obtain ⟨lr, hlr⟩ : ∃ lr, lr = w6.heap.size + 1 := ⟨_, rfl⟩
        obtain ⟨D, hD⟩ : ∃ D, D = w6.heap.size := ⟨_, rfl⟩
        rw [← hlr] at hL1
        rw [← hD] at hK1
        simp only [← hlr]
        simp only [← hD]
        have x11D : X11 + 1 < D := by omega
        have dl : D < lr := by omega
        have hwD : w.heap.size ≤ D := by omega
        have hnD : D ∉ Ds := fun h => by have := (Array.getElem?_eq_some_iff.1 (hM6.2 D h).2).1; omega
        have hI9 : RInv lr D rec w wq w9 := ⟨hL1, hK1, hS6.below hb9, Nat.le_trans hZ6 hb9.size, hBw6.trans (hb9.mono hBw6.size)⟩
        have hM9 := hM6.below hb9
        have c6' : w9.cell? ⟨X11, 0, none⟩ = some (.int .i64 n) := by rw [cellB hb9 _ _ (by omega)]; exact c6
        have c7' : w9.cell? ⟨X11 + 1, 0, none⟩ = some (.int .i64 k) := by rw [cellB hb9 _ _ (by omega)]; exact c7
        clear hL1 hK1 hb9 hlr hD hS6 hZ6 hM6 hBw6 c6 c7 hX11
        show CallsIn Fence.wide _ _ _ #[.func (.yield lr) #[] #[], .pointer (some ⟨X11, 0, none⟩), .pointer (some ⟨X11 + 1, 0, none⟩)] _ _
        refine (callsIn_wide.2 (subsets1_calls lr n k X11 (X11 + 1) (lr + 1)
          (fun L B => RInv lr D rec w wq B ∧ MK w Ds B ∧ ∀ S ∈ L, p S = false)
          (fun B => B.heap[lr]? = some (.loop RD) ∧ B.heap[D]? = some (.deferred (some [])) ∧ MK w Ds B ∧ Below w.heap.size w B ∧ ∃ (aS : Option Addr) (capS : Nat) (S : List Nat), B.heap[X4]? = some (.cells #[.slice aS k capS] 27) ∧ B.heap[X5]? = some (.cells #[.int .i64 0] 43) ∧ IntsR B aS k (nats S) ∧ (ext n k 0).find? p = some S) w9 (by omega) (by omega) ?_ ?_ ?_ c6' c7' ⟨hI9, hM9, fun S h => by cases h⟩)).mono ?_
        · rintro L A B ⟨h1, h2, h3⟩ hb
          exact ⟨h1.below hb, h2.below hb, h3⟩
        · rintro L A ⟨h1, _⟩
          have := (Array.getElem?_eq_some_iff.1 h1.1).1
          omega
        · rintro L S aS capS A hpre ⟨h1, h2, h3⟩ hSl hSx hOS
          have HFD := Lib.hid (fun (hp : p S = true) => find_pre hpre h3 hp)
          have HL := Lib.hid (fun (hp : p S = false) => snoc_false h3 hp)
          clear hpre h3
          refine yield_two h1.1 hst hpe (by rw [hpa]; rfl) ?_
          obtain ⟨RB, hRB⟩ : ∃ RB : Loop, RB = { rec with state := .busy } := ⟨_, rfl⟩
          rw [← hRB]
          have HRB := Lib.hid hRB
          clear hRB
          rw [has, hbo, hpa, htm]
          clear has hbo hpa htm hst hpe
          have hjl := h1.1
          have hI := h1
          gi_wp2
          refine ⟨hjl, ?_⟩
          have hB1 : SameCells wq (A.putObj lr (.loop RB)) := hI.2.2.1.put hjl
          have hB2 : wq.heap.size ≤ (A.putObj lr (.loop RB)).heap.size := by rw [World.putObj_size]; exact hI.2.2.2.1
          have hB3 : Below w.heap.size w (A.putObj lr (.loop RB)) := hI.2.2.2.2.trans (belowK_b (w := w) (Nat.le_refl _) A lr _ _ (by omega) hjl rfl rfl)
          have hB4 : (A.putObj lr (.loop RB)).heap[lr]? = some (.loop RB) := World.putObj_heap_same (Array.getElem?_eq_some_iff.1 hjl).1
          have hB5 : (A.putObj lr (.loop RB)).heap[D]? = some (.deferred (some [])) := (World.putObj_heap_other (by omega)).trans hI.2.1
          have hB6 : KeepR A (A.putObj lr (.loop RB)) := KeepR.put hjl
          have hB7 : MK w Ds (A.putObj lr (.loop RB)) := h2.put hjl
          have hS1 := (IntsT.of_owns hOS).keep hB6.1 (fun B cc z hB => hB6.2 _ _ _ _ (.inl rfl) hB)
          generalize A.putObj lr (.loop RB) = A1 at *
          clear hI hjl h1 h2 hOS
          have kx := hB1 _ _ _ _ k6
          have e4 := hB1 _ _ _ _ k4
          have e5 := hB1 _ _ _ _ k5
          have t0 := cell_of_row _ _ 0 _ _ _ kx
          have t1 := cell_of_row _ _ 1 _ _ _ kx
          have t2 := cell_of_row _ _ 2 _ _ _ kx
          have t3 := cell_of_row _ _ 3 _ _ _ kx
          have t4 := cell_of_row _ _ 4 _ _ _ kx
          have t5 := cell_of_row _ _ 5 _ _ _ kx
          have t6 := cell_of_row _ _ 6 _ _ _ kx
          have t7 := cell_of_row _ _ 7 _ _ _ kx
          have t8 := cell_of_row _ _ 8 _ _ _ kx
          have t9 := cell_of_row _ _ 9 _ _ _ kx
          simp only [List.getElem?_toArray, List.getElem?_cons_zero, List.getElem?_cons_succ] at t0 t1 t2 t3 t4 t5 t6 t7 t8 t9
          have HXS := Lib.hid (HEM.out S a aS cap k capS A1 (ER.same HSLq.out hB1 hB2) hS1.1 hSx (by omega) (by omega))
          have HF := Lib.hid (And.intro hB1 (And.intro hB2 (And.intro hB3 (And.intro hB4 (And.intro hB5 (And.intro hB7 (And.intro e4 (And.intro e5 (And.intro hS1 hB6)))))))))
          clear hB1 hB2 hB3 hB4 hB5 hB6 hB7 kx e4 e5 hS1
          gi_wp2
          refine ⟨trivial, CallsIn.mono (callsIn_wide.2 HXS.out) ?_⟩
          rintro e7 w7 ⟨rfl, hb7⟩
          have HB7 := Lib.hid hb7
          have e4 := (hb7.block _ (Array.getElem?_eq_some_iff.1 HF.out.2.2.2.2.2.2.1).1).trans HF.out.2.2.2.2.2.2.1
          have e5 := (hb7.block _ (Array.getElem?_eq_some_iff.1 HF.out.2.2.2.2.2.2.2.1).1).trans HF.out.2.2.2.2.2.2.2.1
          have y4 := cell_of_row _ _ 0 _ _ _ e4
          have f4 := frozen_of_row _ _ 0 _ _ e4
          have y5 := cell_of_row _ _ 0 _ _ _ e5
          have f5 := frozen_of_row _ _ 0 _ _ e5
          simp only [List.getElem?_toArray, List.getElem?_cons_zero] at y4 y5
          have l4 : X4 < w7.heap.size := (Array.getElem?_eq_some_iff.1 e4).1
          have l5 : X5 < w7.heap.size := (Array.getElem?_eq_some_iff.1 e5).1
          have HE4 := Lib.hid e4
          have HE5 := Lib.hid e5
          clear hb7 e4 e5 HXS t0 t1 t2 t3 t4 t5 t6 t7 t8 t9
          cases hpS : p S
          · gi_wp2
            obtain ⟨hB1, hB2, hB3, hB4, hB5, hB7, e4, e5, hS1, hB6⟩ := HF.out
            have hb7 := HB7.out
            have g4 := (hb7.block _ (Array.getElem?_eq_some_iff.1 hB4).1).trans hB4
            have g5 := (hb7.block _ (Array.getElem?_eq_some_iff.1 hB5).1).trans hB5
            refine ⟨by rw [← HRB.out]; exact g4, .inl ⟨rfl, ⟨RInv.ready (A1 := A1) (hB1.below hb7) (Nat.le_trans hB2 hb7.size) (hB3.trans (hb7.mono hB3.size)) g4 g5 (by omega), (hB7.below hb7).put g4, HL.out hpS⟩, fun B cc zz _ hk => ?_⟩⟩
            exact (KeepR.put (r' := rec) g4).2 _ _ _ _ (.inl rfl) ((KeepR.below hb7).2 _ _ _ _ (.inl rfl) (hB6.2 _ _ _ _ (.inl rfl) hk))
          · gi_wp2
            obtain ⟨hB1, hB2, hB3, hB4, hB5, hB7, e4, e5, hS1, hB6⟩ := HF.out
            have hb7 := HB7.out
            have g4 := (hb7.block _ (Array.getElem?_eq_some_iff.1 hB4).1).trans hB4
            have g5 := (hb7.block _ (Array.getElem?_eq_some_iff.1 hB5).1).trans hB5
            have hS7 := hS1.keep hb7.size (fun B cc z hB => (KeepR.below hb7).2 _ _ _ _ (.inl rfl) hB)
            have hM7 := hB7.below hb7
            have hW7 := hB3.trans (hb7.mono hB3.size)
            have n4l : lr ≠ X4 := by omega
            have n5l : lr ≠ X5 := by omega
            have n4D : D ≠ X4 := by omega
            have n5D : D ≠ X5 := by omega
            have nlD : D ≠ lr := by omega
            have n45 : X4 ≠ X5 := by omega
            have hx4w : w.heap.size ≤ X4 := by omega
            have hx5w : w.heap.size ≤ X5 := by omega
            have HE5' : (w7.setCell ⟨X4, 0, none⟩ (.slice aS k capS)).heap[X5]? = some (.cells #[.int .i64 0] 43) := (heap_set_ne n45.symm).trans HE5.out
            have g4' : ((w7.setCell ⟨X4, 0, none⟩ (.slice aS k capS)).setCell ⟨X5, 0, none⟩ (.int .i64 0)).heap[lr]? = some (.loop RB) := (heap_set_ne n5l).trans ((heap_set_ne n4l).trans g4)
            have g5' : ((w7.setCell ⟨X4, 0, none⟩ (.slice aS k capS)).setCell ⟨X5, 0, none⟩ (.int .i64 0)).heap[D]? = some (.deferred (some [])) := (heap_set_ne n5D).trans ((heap_set_ne n4D).trans g5)
            have q4 : ((w7.setCell ⟨X4, 0, none⟩ (.slice aS k capS)).setCell ⟨X5, 0, none⟩ (.int .i64 0)).heap[X4]? = some (.cells #[.slice aS k capS] 27) := (heap_set_ne n45).trans (cells_set HE4.out)
            have q5 : ((w7.setCell ⟨X4, 0, none⟩ (.slice aS k capS)).setCell ⟨X5, 0, none⟩ (.int .i64 0)).heap[X5]? = some (.cells #[.int .i64 0] 43) := cells_set HE5'
            have hMw : MK w Ds ((w7.setCell ⟨X4, 0, none⟩ (.slice aS k capS)).setCell ⟨X5, 0, none⟩ (.int .i64 0)) := (hM7.set HE4.out).set HE5'
            have hbW : Below w.heap.size w ((w7.setCell ⟨X4, 0, none⟩ (.slice aS k capS)).setCell ⟨X5, 0, none⟩ (.int .i64 0)) := (hW7.setCell hx4w _).setCell hx5w _
            have hSw : IntsT ((w7.setCell ⟨X4, 0, none⟩ (.slice aS k capS)).setCell ⟨X5, 0, none⟩ (.int .i64 0)) aS k (nats S) := (hS7.keep (by simp) (keepI_set HE4.out (by decide))).keep (by simp) (keepI_set HE5' (by decide))
            generalize (w7.setCell ⟨X4, 0, none⟩ (.slice aS k capS)).setCell ⟨X5, 0, none⟩ (.int .i64 0) = WF at *
            refine ⟨by rw [← HRB.out]; exact g4', .inr ⟨rfl, by rw [← HRD.out]; exact World.putObj_heap_same (Array.getElem?_eq_some_iff.1 g4').1, (World.putObj_heap_other nlD).trans g5', hMw.put g4', hbW.trans (belowK_b (w := w) (Nat.le_refl _) _ lr _ _ (by omega) g4' rfl rfl), aS, capS, S, (World.putObj_heap_other n4l.symm).trans q4, (World.putObj_heap_other n5l.symm).trans q5, ?_, HFD.out hpS⟩⟩
            exact (hSw.keep (KeepR.put g4').1 (fun B cc z hB => (KeepR.put g4').2 _ _ _ _ (.inl rfl) hB)).1
        · rintro e W9 ⟨⟨v, rfl⟩, (⟨h1, h2, h3⟩ | ⟨h1, h2, h3, h4, aS, capS, S, h5, h6, h7, h8⟩)⟩
          · refine ⟨⟨_, rfl⟩, .inl ⟨h1.1, ?_⟩⟩
            have hS := h1.2.2.1.put (r' := { rec with state := .exhausted }) h1.1
            have hZ9 : wq.heap.size ≤ (W9.putObj lr (.loop { rec with state := .exhausted })).heap.size := by rw [World.putObj_size]; exact h1.2.2.2.1
            have hBw : Below w.heap.size w (W9.putObj lr (.loop { rec with state := .exhausted })) := h1.2.2.2.2.trans (belowK_b (w := w) (Nat.le_refl _) W9 lr _ _ (by omega) h1.1 rfl rfl)
            have hM : MK w (D :: Ds) (W9.putObj lr (.loop { rec with state := .exhausted })) := (h2.cons h1.2.1 hwD hnD).put h1.1
            generalize W9.putObj lr (.loop { rec with state := .exhausted }) = W2 at *
            have HS := Lib.hid hS
            have HBw := Lib.hid hBw
            have HMM := Lib.hid hM
            have hnone : (ext n k 0).find? p = none := List.find?_eq_none.2 (fun S hS => by rw [h3 S hS]; decide)
            have hstep : ctrS p n (n + 1 - k) k = ctrS p n (n + 1 - (k + 1)) (k + 1) := by
              rw [show n + 1 - k = (n + 1 - (k + 1)) + 1 by omega]; exact ctrS_next hnone
            have HVk := Lib.hid (HVk.out.trans hstep)
            clear h1 h2 h3 hst hpe hpa htm has hbo hI9 hM9 c6' c7' hS hBw hM hstep hnone
            go_wp2_with fail
            refine ⟨?_, ?_⟩
            · rw [HI.out]
              exact ⟨k + 1, D :: Ds, _, _, _, _, _, _, _, _, _, _, _, _, rfl, by omega, by omega, HVk.out, HS.out, hZ9, HBw.out, HMM.out⟩
            · rw [HM.out]
              simp [intOf]
              omega
          · refine ⟨⟨_, rfl⟩, .inr ⟨by rw [h1, HRD.out], ?_⟩⟩
            have nlD : D ≠ lr := by omega
            have n4l : X4 ≠ lr := by omega
            have n5l : X5 ≠ lr := by omega
            have g2 : (W9.putObj lr (.loop { rec with state := .exhausted, pending := some .ret })).heap[D]? = some (.deferred (some [])) := (World.putObj_heap_other nlD).trans h2
            have q4 : (W9.putObj lr (.loop { rec with state := .exhausted, pending := some .ret })).heap[X4]? = some (.cells #[.slice aS k capS] 27) := (World.putObj_heap_other n4l).trans h5
            have q5 : (W9.putObj lr (.loop { rec with state := .exhausted, pending := some .ret })).heap[X5]? = some (.cells #[.int .i64 0] 43) := (World.putObj_heap_other n5l).trans h6
            have hM : MK w (D :: Ds) (W9.putObj lr (.loop { rec with state := .exhausted, pending := some .ret })) := (h3.cons h2 hwD hnD).put h1
            have hBw : Below w.heap.size w (W9.putObj lr (.loop { rec with state := .exhausted, pending := some .ret })) := h4.trans (belowK_b (w := w) (Nat.le_refl _) W9 lr _ _ (by omega) h1 rfl rfl)
            have hIS : IntsR (W9.putObj lr (.loop { rec with state := .exhausted, pending := some .ret })) aS k (nats S) := SlR.sameY h7 (by omega) ((SameCells.refl W9).put h1)
            generalize W9.putObj lr (.loop { rec with state := .exhausted, pending := some .ret }) = W2 at *
            have hVS : V = some S := by
              rw [HVk.out, show n + 1 - k = (n + 1 - (k + 1)) + 1 by omega]; exact ctrS_found h8
            subst hVS
            refine leaves_marks (B := w.heap.size) (w0 := w) (D :: Ds) W2 hM.1 hM.2 hBw (fun w' hs hb' => ⟨.tuple #[.slice aS k capS, .int .i64 0], ?_, aS, k, capS, rfl, hb', SlR.sameY hIS (by omega) hs⟩)
            have c4 := cell_of_row _ _ 0 _ _ _ (hs _ _ _ _ q4)
            have c5 := cell_of_row _ _ 0 _ _ _ (hs _ _ _ _ q5)
            simp only [List.getElem?_toArray, List.getElem?_cons_zero] at c4 c5
            simp [results, Tryz.results21, go_sem, c4, c5]
  · have hV : ctrV g A = ([], hE g A) := by unfold ctrV; rw [if_pos h0]
    rw [hV]
    generalize hE g A = E at *
    have hE1 := bne_iff_ne.2 h0
    clear hV h0 hl HEQ
    refine (callsIn_wide (n := 3)).1 ?_
    refine callsIn_of_wp_marks Tryz.func21 rfl trivial ?_ rfl
    simp only [Tryz.ntmps21, List.size_toArray, List.length_cons, List.length_nil, Nat.reduceAdd, Nat.reduceSub, Array.replicate_succ, Array.replicate_zero, List.push_toArray, List.append_toArray, List.nil_append, List.cons_append]
    refine (wpIn_wide (n := 3)).2 ?_
    go_wp2_with fail
    generalize hW : World.alloc _ _ = w4
    have hb4 : Below w.heap.size w w4 := by rw [← hW]; (repeat' (first | (with_reducible exact Below.refl _ _) | (with_reducible assumption) | (with_reducible refine Below.drewN ?_ _) | (with_reducible refine Below.alloc ?_ ?_ _) | (with_reducible refine Below.drew ?_) | (with_reducible refine Below.setCell ?_ ?_ _) | (with_reducible refine Below.step (by assumption) ?_ ?_) | (with_reducible exact And.left (by assumption)) | go_size))
    have z0 : w4.cell? ⟨w.heap.size + 1 + 1, 0, none⟩ = some (.slice none 0 0) := by { rw [← hW]; clear hW; go_simp }
    have f0 : w4.frozen? ⟨w.heap.size + 1 + 1, 0, none⟩ = false := by { rw [← hW]; clear hW; go_simp }
    have z1 : w4.cell? ⟨w.heap.size + 1 + 1 + 1, 0, none⟩ = some (.int .i64 0) := by { rw [← hW]; clear hW; go_simp }
    have f1 : w4.frozen? ⟨w.heap.size + 1 + 1 + 1, 0, none⟩ = false := by { rw [← hW]; clear hW; go_simp }
    have l1 : w.heap.size + 1 + 1 + 1 < w4.heap.size := by { rw [← hW]; clear hW; simp }
    have l0 : w.heap.size + 1 + 1 < w4.heap.size := by omega
    have HB4 := Lib.hid hb4
    clear hW hb4
    refine (HH.out _ HB4.out).mono ?_
    rintro e5 w5 ⟨rfl, hb5⟩
    have hz5 := hb5.size
    have z0d : w5.cell? ⟨w.heap.size + 1 + 1, 0, none⟩ = some (.slice none 0 0) := by { rw [cellB hb5 _ _ (by first | (simp; done) | (simp; omega) | omega)]; all_goals (first | assumption | go_simp) }; have z1d : w5.cell? ⟨w.heap.size + 1 + 1 + 1, 0, none⟩ = some (.int .i64 0) := by { rw [cellB hb5 _ _ (by first | (simp; done) | (simp; omega) | omega)]; all_goals (first | assumption | go_simp) }; have f0d : w5.frozen? ⟨w.heap.size + 1 + 1, 0, none⟩ = false := by { rw [frozenB hb5 _ _ (by first | (simp; done) | (simp; omega) | omega)]; all_goals (first | assumption | go_simp) }; have f1d : w5.frozen? ⟨w.heap.size + 1 + 1 + 1, 0, none⟩ = false := by { rw [frozenB hb5 _ _ (by first | (simp; done) | (simp; omega) | omega)]; all_goals (first | assumption | go_simp) }; have l0d : w.heap.size + 1 + 1 < w5.heap.size := by { omega }; have l1d : w.heap.size + 1 + 1 + 1 < w5.heap.size := by { omega }
    have HB5 := Lib.hid (HB4.out.trans (hb5.mono HB4.out.size))
    clear hb5 HH hz5 z0 z1 f0 f1 l0 l1 HB4
    go_wp2_with fail
    obtain ⟨ob, hob⟩ : ∃ ob, ob = Obj.cells #[.int .i64 g.f.x, .int .i64 g.f.y, .int .i64 g.f.z, .int .i64 g.st, .int .i64 g.c.x, .int .i64 g.c.y, .int .i64 g.c.z, .int .i64 A.lo, .int .i64 A.hi, .slice a n cap] 125 := ⟨_, rfl⟩
    rw [← hob]
    have hr0 : (((w5.setCell ⟨w.heap.size + 1 + 1, 0, none⟩ (.slice none 0 0)).setCell ⟨w.heap.size + 1 + 1 + 1, 0, none⟩ (.int .i64 E)).alloc ob).cell? ⟨w.heap.size + 1 + 1, 0, none⟩ = some (.slice none 0 0) := by go_simp
    have hr1 : (((w5.setCell ⟨w.heap.size + 1 + 1, 0, none⟩ (.slice none 0 0)).setCell ⟨w.heap.size + 1 + 1 + 1, 0, none⟩ (.int .i64 E)).alloc ob).cell? ⟨w.heap.size + 1 + 1 + 1, 0, none⟩ = some (.int .i64 E) := by go_simp
    have hx4w : w.heap.size ≤ w.heap.size + 1 + 1 := by omega
    have hx5w : w.heap.size ≤ w.heap.size + 1 + 1 + 1 := by omega
    have hbW : Below w.heap.size w ((w5.setCell ⟨w.heap.size + 1 + 1, 0, none⟩ (.slice none 0 0)).setCell ⟨w.heap.size + 1 + 1 + 1, 0, none⟩ (.int .i64 E)) := (HB5.out.setCell hx4w _).setCell hx5w _
    have hbA : Below w.heap.size w (((w5.setCell ⟨w.heap.size + 1 + 1, 0, none⟩ (.slice none 0 0)).setCell ⟨w.heap.size + 1 + 1 + 1, 0, none⟩ (.int .i64 E)).alloc ob) := Below.alloc hbW hbW.size _
    generalize ((w5.setCell ⟨w.heap.size + 1 + 1, 0, none⟩ (.slice none 0 0)).setCell ⟨w.heap.size + 1 + 1 + 1, 0, none⟩ (.int .i64 E)).alloc ob = WF at *
    refine leaves_marks (B := w.heap.size) (w0 := w) [] _ List.nodup_nil (fun D hD => by simp at hD) hbA (fun w' hs hb' => ⟨.tuple #[.slice none 0 0, .int .i64 E], ?_, none, 0, 0, rfl, hb', IntsR.nil _ _⟩)
    have c4 := hs.cell hr0
    have c5 := hs.cell hr1
    simp [results, Tryz.results21, go_sem, c4, c5]
end Go.Proofs.YtdklmcicogmeaaaGreat
