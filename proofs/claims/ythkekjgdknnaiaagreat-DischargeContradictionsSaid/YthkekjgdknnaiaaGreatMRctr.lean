import Derived.ChangeKeysEq
import Derived.Test.YthkekjgdknnaiaaGreatBlk
import Derived.Test.YthkekjgdknnaiaaGreatMAnsw
import Derived.Test.YthkekjgdknnaiaaGreatMCon
import Derived.Test.YthkekjgdknnaiaaGreatMDLevO
import Derived.Test.YthkekjgdknnaiaaGreatMDRespX
import Derived.Test.YthkekjgdknnaiaaGreatMReg
import Derived.Test.YthkekjgdknnaiaaGreatRCopyA
/- The region of some sensors: the reference's functions. -/
namespace Go.Proofs.YthkekjgdknnaiaaGreat
open Go.RowKit
set_option linter.unusedVariables false
set_option maxHeartbeats 4000000 in
set_option maxRecDepth 100000 in
theorem rRegion_any (g : Gri) (A : Arr) (S : List Nat) (a aS : Option Addr) (n cp k cs : Nat) (w : World) (hl : SenR w a n A.l) (hS : IntsR w aS k (nats S)) (hg : griE g = 0)
    (hss : ∀ i, i < n → plc ⟨(sAt A.l i).x, (sAt A.l i).y, (sAt A.l i).z⟩ = true ∧ 0 ≤ (sAt A.l i).lo ∧ (sAt A.l i).lo ≤ (sAt A.l i).hi ∧ (sAt A.l i).hi ≤ 1000000) (hnd : S.Nodup) (hlt : ∀ i ∈ S, i < n) (hv : 1 ≤ A.lo ∧ A.lo ≤ A.hi ∧ A.hi ≤ 10000) :
    Calls Tryz.prog 51 #[.agg #[.int .i64 g.f.x, .int .i64 g.f.y, .int .i64 g.f.z, .int .i64 g.st, .int .i64 g.c.x, .int .i64 g.c.y, .int .i64 g.c.z], .agg #[.int .i64 A.lo, .int .i64 A.hi, .slice a n cp], .slice aS k cs] w
      fun e' w' => ∃ a' k' c', e' = .returned (.slice a' k' c') ∧ Below w.heap.size w w' ∧ CelR w' a' k' (regC (fun c => ansS g A c S) (gCells g)) := by
  have HAN := Lib.hid (fun (c : T3) (hc : celB g c = true) (W : World) (hb : Below w.heap.size w W) => rAnswer_any g A c S a aS n cp k cs W (hl.below hb) (hS.below hb) hg hc hss hnd hlt hv)
  have HCB := Lib.hid (fun c : T3 => celB_iff (g := g) (c := c))
  obtain ⟨p, hp⟩ : ∃ p : T3 → Int, p = fun c => ansS g A c S := ⟨_, rfl⟩
  rw [← hp]
  have HP := Lib.hid (fun c : T3 => congrFun hp c)
  have hcn := cnt_iff.1 (griE_zero hg).2.2
  clear hl hS hss hnd hlt hv hg hp
  obtain ⟨cx, hcx⟩ : ∃ cx : Nat, g.c.x = cx := ⟨g.c.x.toNat, by omega⟩
  obtain ⟨cy, hcy⟩ : ∃ cx : Nat, g.c.y = cx := ⟨g.c.y.toNat, by omega⟩
  obtain ⟨cz, hcz⟩ : ∃ cx : Nat, g.c.z = cx := ⟨g.c.z.toNat, by omega⟩
  have HGC := Lib.hid (show gCells g = cellsX cy cz cx by unfold gCells; rw [hcx, hcy, hcz]; simp)
  have HC1 := Lib.hid (show ∀ i j k : Nat, i < cx → j < cy → k < cz → celB g ⟨(i : Int), (j : Int), (k : Int)⟩ = true from fun i j k h1 h2 h3 => (HCB.out _).2 (by rw [hcx, hcy, hcz]; simp only; omega))
  have hx6 : cx ≤ 6 := by omega
  have hy6 : cy ≤ 6 := by omega
  have hz6 : cz ≤ 6 := by omega
  rw [HGC.out]
  obtain ⟨⟨fx, fy, fz⟩, st, ⟨gx, gy, gz⟩⟩ := g
  simp only at hcx hcy hcz
  subst hcx hcy hcz
  obtain ⟨vl, vh, l⟩ := A
  simp only at *
  clear hcn HCB HGC
  go_enter Tryz.func51, Tryz.ntmps51
  go_wp2_with fail
  obtain ⟨w4, hW⟩ : ∃ w4, w4 = (w.alloc (Obj.cells #[.int .i64 fx, .int .i64 fy, .int .i64 fz, .int .i64 st, .int .i64 cx, .int .i64 cy, .int .i64 cz] 90)).alloc (Obj.cells #[.int .i64 vl, .int .i64 vh, .slice a n cp] 93) := ⟨_, rfl⟩
  rw [← hW]
  have hb4 : Below w.heap.size w w4 := by rw [hW]; (repeat' (first | (with_reducible exact Below.refl _ _) | (with_reducible assumption) | (with_reducible refine Below.drewN ?_ _) | (with_reducible refine Below.alloc ?_ ?_ _) | (with_reducible refine Below.drew ?_) | (with_reducible refine Below.setCell ?_ ?_ _) | (with_reducible refine Below.step (by assumption) ?_ ?_) | (with_reducible exact And.left (by assumption)) | go_size))
  have kG : w4.heap[w.heap.size]? = some (.cells #[.int .i64 fx, .int .i64 fy, .int .i64 fz, .int .i64 st, .int .i64 cx, .int .i64 cy, .int .i64 cz] 90) := by
    rw [hW, Below.heap_alloc _ _ _ (by simp)]; exact heap_alloc_new _ _
  have kA : w4.heap[w.heap.size + 1]? = some (.cells #[.int .i64 vl, .int .i64 vh, .slice a n cp] 93) := by
    rw [hW]
    have := heap_alloc_new (w.alloc (Obj.cells #[.int .i64 fx, .int .i64 fy, .int .i64 fz, .int .i64 st, .int .i64 cx, .int .i64 cy, .int .i64 cz] 90)) (Obj.cells #[.int .i64 vl, .int .i64 vh, .slice a n cp] 93)
    simpa using this
  have hl4 : w.heap.size + 1 < w4.heap.size := by rw [hW]; simp
  have HB := Lib.hid hb4
  clear hW hb4
  go_loopw [7, 8] (fun v i wr => ∃ (x q : Nat) (av : Option Addr) (cv : Nat), i = .int .i64 (x : Int) ∧ v = .slice av q cv ∧ x ≤ cx ∧ Hid (wr.ownsRow w4.heap.size 183 4 (.slice av q cv) q (ecells e4c (regC p (cellsU cy cz x 0 0)))) ∧ Hid (Below w4.heap.size w4 wr)) (fun _ i _ => cx - (intOf i).toNat)
  case atStart => exact ⟨0, 0, none, 0, rfl, rfl, Nat.zero_le _, Lib.hid (World.ownsRow_nil _ _ _ _), Lib.hid (Below.refl _ _)⟩
  case round =>
    obtain ⟨x, q, av, cv, rfl, rfl, hx, hO, hB⟩ := hrel
    have x0 : (0 : Int) ≤ (x : Int) := by omega
    have hbr := hB.out
    have kg := blk_below kG hbr
    have ka := blk_below kA hbr
    have q0 := blk_cell kg (i := 0) rfl
    have q1 := blk_cell kg (i := 1) rfl
    have q2 := blk_cell kg (i := 2) rfl
    have q3 := blk_cell kg (i := 3) rfl
    have q4 := blk_cell kg (i := 4) rfl
    have q5 := blk_cell kg (i := 5) rfl
    have q6 := blk_cell kg (i := 6) rfl
    have p0 := blk_cell ka (i := 0) rfl
    have p1 := blk_cell ka (i := 1) rfl
    have p2 := blk_cell ka (i := 2) rfl
    have hzr := hbr.size
    have lr0 : w.heap.size < wr.heap.size := by omega
    have lr1 : w.heap.size + 1 < wr.heap.size := by omega
    clear kg ka
    clear hbr
    by_cases hxlt : x < cx
    · have x1 : (x : Int) < (cx : Int) := by omega
      go_wp2_with fail
      clear q0 q1 q2 q3 q4 q5 q6 p0 p1 p2 lr0 lr1 hzr
      go_loopw [7, 9] (fun v i wr => ∃ (y q : Nat) (av : Option Addr) (cv : Nat), i = .int .i64 (y : Int) ∧ v = .slice av q cv ∧ y ≤ cy ∧ Hid (wr.ownsRow w4.heap.size 183 4 (.slice av q cv) q (ecells e4c (regC p (cellsU cy cz x y 0)))) ∧ Hid (Below w4.heap.size w4 wr)) (fun _ i _ => cy - (intOf i).toNat)
      case atStart => exact ⟨0, q, av, cv, rfl, rfl, Nat.zero_le _, hO, hB⟩
      case round =>
        clear hO hB
        obtain ⟨y, q, av, cv, rfl, rfl, hy, hO, hB⟩ := hrel
        have y0 : (0 : Int) ≤ (y : Int) := by omega
        have hbr := hB.out
        have kg := blk_below kG hbr
        have ka := blk_below kA hbr
        have q0 := blk_cell kg (i := 0) rfl
        have q1 := blk_cell kg (i := 1) rfl
        have q2 := blk_cell kg (i := 2) rfl
        have q3 := blk_cell kg (i := 3) rfl
        have q4 := blk_cell kg (i := 4) rfl
        have q5 := blk_cell kg (i := 5) rfl
        have q6 := blk_cell kg (i := 6) rfl
        have p0 := blk_cell ka (i := 0) rfl
        have p1 := blk_cell ka (i := 1) rfl
        have p2 := blk_cell ka (i := 2) rfl
        have hzr := hbr.size
        have lr0 : w.heap.size < wr.heap.size := by omega
        have lr1 : w.heap.size + 1 < wr.heap.size := by omega
        clear kg ka
        clear hbr
        by_cases hylt : y < cy
        · have y1 : (y : Int) < (cy : Int) := by omega
          go_wp2_with fail
          clear q0 q1 q2 q3 q4 q5 q6 p0 p1 p2 lr0 lr1 hzr
          go_loopw [7, 10] (fun v i wr => ∃ (z q : Nat) (av : Option Addr) (cv : Nat), i = .int .i64 (z : Int) ∧ v = .slice av q cv ∧ z ≤ cz ∧ Hid (wr.ownsRow w4.heap.size 183 4 (.slice av q cv) q (ecells e4c (regC p (cellsU cy cz x y z)))) ∧ Hid (Below w4.heap.size w4 wr)) (fun _ i _ => cz - (intOf i).toNat)
          case atStart => exact ⟨0, q, av, cv, rfl, rfl, Nat.zero_le _, hO, hB⟩
          case round =>
            clear hO hB
            obtain ⟨z, q, av, cv, rfl, rfl, hz, hO, hB⟩ := hrel
            have z0 : (0 : Int) ≤ (z : Int) := by omega
            have hbr := hB.out
            have kg := blk_below kG hbr
            have ka := blk_below kA hbr
            have q0 := blk_cell kg (i := 0) rfl
            have q1 := blk_cell kg (i := 1) rfl
            have q2 := blk_cell kg (i := 2) rfl
            have q3 := blk_cell kg (i := 3) rfl
            have q4 := blk_cell kg (i := 4) rfl
            have q5 := blk_cell kg (i := 5) rfl
            have q6 := blk_cell kg (i := 6) rfl
            have p0 := blk_cell ka (i := 0) rfl
            have p1 := blk_cell ka (i := 1) rfl
            have p2 := blk_cell ka (i := 2) rfl
            have hzr := hbr.size
            have lr0 : w.heap.size < wr.heap.size := by omega
            have lr1 : w.heap.size + 1 < wr.heap.size := by omega
            clear kg ka
            clear hbr
            by_cases hzlt : z < cz
            · have z1 : (z : Int) < (cz : Int) := by omega
              have HCC := Lib.hid (HC1.out x y z hxlt hylt hzlt)
              have HPP := Lib.hid (HP.out ⟨(x : Int), (y : Int), (z : Int)⟩)
              have HUZ := Lib.hid (cellsU_z cy cz x y z)
              have hq : q ≤ 400 := by
                have h1 := hO.out.1
                rw [ecells_len e4c_len] at h1
                have h2 := regC_len p (cellsU cy cz x y z)
                have h3 := cellsU_len hx6 hy6 hz6 hxlt hylt hzlt
                omega
              go_wp2_with fail
              obtain ⟨XC, hXC⟩ : ∃ X, X = wr.heap.size := ⟨_, rfl⟩
              rw [← hXC]
              generalize hWa : wr.alloc (Obj.cells #[.int .i64 x, .int .i64 y, .int .i64 z] 88) = wa
              have hba : Below wr.heap.size wr wa := by rw [← hWa]; (repeat' (first | (with_reducible exact Below.refl _ _) | (with_reducible assumption) | (with_reducible refine Below.drewN ?_ _) | (with_reducible refine Below.alloc ?_ ?_ _) | (with_reducible refine Below.drew ?_) | (with_reducible refine Below.setCell ?_ ?_ _) | (with_reducible refine Below.step (by assumption) ?_ ?_) | (with_reducible exact And.left (by assumption)) | go_size))
              have kC : wa.heap[XC]? = some (.cells #[.int .i64 x, .int .i64 y, .int .i64 z] 88) := by rw [← hWa, hXC]; exact heap_alloc_new _ _
              have HBA := Lib.hid (hB.out.trans (hba.mono hB.out.size))
              have HOA := Lib.hid (owns_below hO.out hba (fun z hz => (hO.out.lt z hz).2))
              clear hWa hba hXC q0 q1 q2 q3 q4 q5 q6 p0 p1 p2 lr0 lr1 hzr hO hB
              refine (HAN.out ⟨x, y, z⟩ HCC.out _ (HB.out.trans (HBA.out.mono HB.out.size))).mono ?_
              rintro e7 w7 ⟨rfl, hb7⟩
              rw [← HPP.out]
              have kC := blk_below kC hb7
              have HB7 := Lib.hid (HBA.out.trans (hb7.mono HBA.out.size))
              have HO7 := Lib.hid (owns_below HOA.out hb7 (fun z hz => (HOA.out.lt z hz).2))
              have c0 := blk_cell kC (i := 0) rfl
              have c1 := blk_cell kC (i := 1) rfl
              have c2 := blk_cell kC (i := 2) rfl
              have lC : XC < w7.heap.size := blk_lt kC
              have hz7 := HB7.out.size
              clear hb7 HOA HBA
              generalize hpv : p ⟨(x : Int), (y : Int), (z : Int)⟩ = pv
              by_cases h0 : pv = 0
              · subst h0
                have HL := Lib.hid (show ecells e4c (regC p (cellsU cy cz x y (z + 1))) = ecells e4c (regC p (cellsU cy cz x y z)) by rw [HUZ.out, regC_no hpv])
                rw [← HL.out] at HO7
                clear hpv
                go_wp2_with fail
                go_roundw
                case rel => exact ⟨z + 1, q, av, cv, by go_num, rfl, by omega, HO7, HB7⟩
                case measure => simp [intOf]; omega
              · have h1 := bne_iff_ne.2 h0
                have HL := Lib.hid (show ecells e4c (regC p (cellsU cy cz x y (z + 1))) = ecells e4c (regC p (cellsU cy cz x y z)) ++ [.int .i64 x, .int .i64 y, .int .i64 z, .int .i64 pv] by
                  rw [HUZ.out, regC_yes (by rw [hpv]; exact h0), hpv]; exact ecells_append _ _)
                clear hpv h0
                go_wp2_with (at_builtin; refine wpList_append_sl _ rfl _ _ 96 rfl w4.heap.size 183 _ 4 32 Tryz.underlying96 infoCel rfl (by omega) (.slice av q cv) q _ rfl (HO7.out.alloc _) _ 1 1 [.int .i64 x, .int .i64 y, .int .i64 z, .int .i64 pv] rfl (SlR.lit _ _ _ _ _ 1 4 (by rfl) (by simp) rfl (by omega)) (by simp [Value.oneCell']) (by omega) (by omega) (by simp; omega) ?_)
                intro v2 w2 hown2 hgr2 hb2
                obtain ⟨av2, cv2, rfl, _, _⟩ := owns_slice hown2
                rw [← HL.out] at hown2
                have HO2 := Lib.hid hown2
                have HB2 := Lib.hid ((HB7.out.alloc (by omega) _).trans hb2)
                clear hown2 hgr2 hb2 HO7
                go_wp2
                go_roundw
                case rel => exact ⟨z + 1, q + 1, av2, cv2, by go_num, rfl, by omega, HO2, HB2⟩
                case measure => simp [intOf]; omega
            · obtain rfl : z = cz := by omega
              rw [cellsU_y] at hO
              go_wp2_with fail
              go_roundw
              case rel => exact ⟨y + 1, q, av, cv, by go_num, rfl, by omega, hO, hB⟩
              case measure => simp [intOf]; omega
        · obtain rfl : y = cy := by omega
          rw [cellsU_x] at hO
          go_wp2_with fail
          go_roundw
          case rel => exact ⟨x + 1, q, av, cv, by go_num, rfl, by omega, hO, hB⟩
          case measure => simp [intOf]; omega
    · obtain rfl : x = cx := by omega
      rw [cellsU_end] at hO
      go_wp2
      go_ret
      exact ⟨av, q, cv, rfl, HB.out.trans (hB.out.mono HB.out.size), ER.of_owns (by have := hO.out.1; rw [ecells_len e4c_len] at this; omega) hO.out⟩
end Go.Proofs.YthkekjgdknnaiaaGreat

/- Regions and contradicting sensors: no program in sight. -/
namespace Go.Proofs.YthkekjgdknnaiaaGreat
set_option linter.unusedVariables false

theorem excl_sub {g : Gri} {A : Arr} {c : T3} {S : List Nat} {x y : Nat} (h : ∀ i ∈ S, i < A.l.length) (hx : x < S.length) (hy : y < S.length) : excl g (subA A S) c x y = exS g A c S x y := by
  unfold exS excl lat dAt subA
  dsimp only
  rw [nats_sub h hx, nats_sub h hy]
theorem keep_sub {g : Gri} {A : Arr} {c : T3} {v : Int} {S : List Nat} {x y : Nat} (h : ∀ i ∈ S, i < A.l.length) (hx : x < S.length) (hy : y < S.length) : keep g (subA A S) c v x y = kpS g A c v S x y := by
  unfold kpS keep lat dAt subA
  dsimp only
  rw [nats_sub h hx, nats_sub h hy]
theorem ansS_sub {g : Gri} {A : Arr} {c : T3} {S : List Nat} (h : ∀ i ∈ S, i < A.l.length) : ansS g A c S = ans g (subA A S) c := by
  have hl : (subA A S).l.length = S.length := by unfold subA; simp
  unfold ansS ans
  rw [hl]
  rw [allP_congr (p := fun i j => !excl g (subA A S) c i j) (q := fun x y => !exS g A c S x y) (fun i j hi hj => by rw [excl_sub h hi hj]),
    allP_congr (p := keep g (subA A S) c (subA A S).lo) (q := kpS g A c A.lo S) (fun i j hi hj => keep_sub h hi hj),
    allP_congr (p := keep g (subA A S) c (subA A S).hi) (q := kpS g A c A.hi S) (fun i j hi hj => keep_sub h hi hj)]
theorem regC_nil {p : T3 → Int} {L : List T3} : regC p L = [] ↔ L.all (fun c => decide (p c = 0)) = true := by
  unfold regC
  rw [List.filterMap_eq_nil_iff, List.all_eq_true]
  constructor
  · intro h c hc
    have := h c hc
    by_cases h0 : p c = 0
    · simpa using h0
    · rw [if_neg h0] at this; cases this
  · intro h c hc
    have := h c hc
    rw [decide_eq_true_eq] at this
    rw [if_pos this]
theorem emptyS {g : Gri} {A : Arr} {S : List Nat} (h : ∀ i ∈ S, i < A.l.length) : emptyB g (subA A S) = decide (regC (fun c => ansS g A c S) (gCells g) = []) := by
  rw [Bool.eq_iff_iff, decide_eq_true_eq, regC_nil]
  unfold emptyB
  rw [show (fun c => decide (ans g (subA A S) c = 0)) = (fun c => decide (ansS g A c S = 0)) from funext fun c => by rw [ansS_sub h]]
theorem ansS_pos {g : Gri} {A : Arr} {c : T3} {S : List Nat} : ansS g A c S ≠ 0 ↔ ∀ x y, x < S.length → y < S.length → x ≠ y → exS g A c S x y = false := by
  unfold ansS
  by_cases h : allP S.length (fun x y => !exS g A c S x y) = true
  · rw [if_pos h]
    constructor
    · intro _ x y hx hy hxy
      have := allP_iff.1 h x y hx hy hxy
      simpa using this
    · intro _
      split <;> decide
  · rw [if_neg h]
    constructor
    · intro h0; exact absurd rfl h0
    · intro h1
      exact absurd (allP_iff.2 (fun i j hi hj hij => by rw [h1 i j hi hj hij]; rfl)) h
theorem gCells_zero {g : Gri} (hg : griE g = 0) : (⟨0, 0, 0⟩ : T3) ∈ gCells g := by
  have h := cnt_iff.1 (griE_zero hg).2.2
  unfold gCells
  exact cellsX_mem.2 ⟨0, 0, 0, by omega, by omega, by omega, rfl⟩
/-- One sensor alone excludes nothing. -/
theorem one_full {g : Gri} {A : Arr} (hg : griE g = 0) {x : List Nat} (h1 : x.length = 1) (h : ∀ i ∈ x, i < A.l.length) : emptyB g (subA A x) = false := by
  rw [Bool.eq_false_iff]
  intro he
  unfold emptyB at he
  rw [List.all_eq_true] at he
  have h2 := he _ (gCells_zero hg)
  rw [decide_eq_true_eq, ← ansS_sub h] at h2
  exact absurd h2 (ansS_pos.2 (fun i j hi hj hij => by omega))
/-- What some sensors exclude all of them exclude. -/
theorem empty_mono {g : Gri} {A : Arr} {S : List Nat} (hn : S.Nodup) (h : ∀ i ∈ S, i < A.l.length) (he : emptyB g (subA A S) = true) : regC (ans g A) (gCells g) = [] := by
  rw [emptyS h, decide_eq_true_eq, regC_nil, List.all_eq_true] at he
  rw [regC_nil, List.all_eq_true]
  intro c hc
  have h1 := he c hc
  rw [decide_eq_true_eq] at h1 ⊢
  by_cases h0 : ans g A c = 0
  · exact h0
  · exfalso
    rw [← ansS_all, ← ne_eq, ansS_pos] at h0
    refine absurd h1 (ansS_pos.2 (fun x y hx hy hxy => ?_))
    have gx := getD_lt h hx
    have gy := getD_lt h hy
    have := h0 (S.getD x 0) (S.getD y 0) (by rw [List.length_range]; exact gx) (by rw [List.length_range]; exact gy) (fun e => hxy (nodup_getD hn hx hy e))
    unfold exS at this ⊢
    rwa [range_getD gx, range_getD gy] at this
theorem ext_nd {m k : Nat} {S : List Nat} (h : S ∈ ext m k 0) : S.Nodup ∧ S.length = k ∧ ∀ x ∈ S, x < m := by
  obtain ⟨h1, h2, h3⟩ := (ext_mem m k 0 S).1 h
  exact ⟨h2.imp (fun h => by omega), h1, fun x hx => (h3 x hx).2⟩
theorem regV_ok {g : Gri} {A : Arr} (h0 : hE g A = 0) : regV g A = regC (ans g A) (gCells g) := by
  unfold regV; rw [if_neg (by rw [h0]; decide)]
theorem ctrV_no {g : Gri} {A : Arr} (h0 : hE g A = 0) (hr : regV g A ≠ []) : ctrV g A = ([], 12) := by
  unfold ctrV
  rw [if_neg (by rw [h0]; decide)]
  cases h : ctrO g A with
  | none => rfl
  | some S =>
    exfalso
    unfold ctrO at h
    obtain ⟨j, _, _, hf, _⟩ := ctrS_some h
    obtain ⟨h1, h2, h3⟩ := ext_nd (List.mem_of_find?_eq_some hf)
    exact hr ((regV_ok h0).trans (empty_mono h1 h3 (List.find?_some (p := fun S => emptyB g (subA A S)) hf)))
theorem ctrV_yes {g : Gri} {A : Arr} (h0 : hE g A = 0) (hr : regV g A = []) : ctrV g A = (selX (fun S => emptyB g (subA A S)) A.l.length (2 ^ A.l.length), 0) := by
  obtain ⟨hg, ha⟩ := hE_zero h0
  obtain ⟨_, _, hn2, hn5, _⟩ := arrE_zero ha
  rw [sel_ctr (fun x h1 hx => one_full hg h1 ((allB_mem _ _).1 hx).2)]
  unfold ctrV
  rw [if_neg (by rw [h0]; decide)]
  cases h : ctrO g A with
  | some S => unfold ctrO at h; rw [h]; rfl
  | none =>
    exfalso
    unfold ctrO at h
    have hall : List.range A.l.length ∈ ext A.l.length A.l.length 0 := (ext_mem _ _ _ _).2 ⟨List.length_range, List.pairwise_lt_range, fun x hx => ⟨Nat.zero_le _, List.mem_range.1 hx⟩⟩
    have h1 := ctrS_none h A.l.length (by omega) (by omega) _ hall
    rw [emptyS (fun i hi => List.mem_range.1 hi), decide_eq_false_iff_not] at h1
    refine h1 ?_
    rw [← hr, regV_ok h0]
    congr 1
    funext c
    exact ansS_all g A c
end Go.Proofs.YthkekjgdknnaiaaGreat

/- The minimum set of sensors that contradict each other: the reference's function; equal cells. -/
namespace Go.Proofs.YthkekjgdknnaiaaGreat
open Go.RowKit
set_option linter.unusedVariables false

theorem arr3 (w : World) (a b c : Int) : (Op.equalIn 9999 88 (.agg #[.int .i64 a, .int .i64 b, .int .i64 c]) (.agg #[.int .i64 a, .int .i64 b, .int .i64 c])).run Tryz.prog w = .ok true w := by
  obtain ⟨i, hi, _⟩ := info_parts infoInt
  have hc : Tryz.prog.cellsOf 3 = 1 := by kernel_rfl
  rw [show 9999 = 9998 + 1 from rfl, run_equalIn_array w 9998 _ _ (by first | exact Tryz.underlying88 | kernel_rfl) hi, hc]
  simp [Op.eqItems, List.range, List.range.loop, part, go_sem]
theorem run_neq_cell (w : World) (a b c d : Int) : (binOp .neq 183 (.agg #[.int .i64 a, .int .i64 b, .int .i64 c, .int .i64 d]) (.agg #[.int .i64 a, .int .i64 b, .int .i64 c, .int .i64 d])).run Tryz.prog w = .ok (.bool false) w := by
  simp [go_sem, Tryz.underlying183, arr3]
attribute [local go_sem] run_neq_cell arr3
theorem CelR.addr4 {w : World} {a : Option Addr} {n : Nat} {l : List Cel} (h : CelR w a n l) (hn : 0 < n) :
    ∃ b o, a = some ⟨b, o, none⟩ ∧ b < w.heap.size ∧ ∀ i p, l[i]? = some p → w.cell? ⟨b, o + i * 4, none⟩ = some (.int .i64 p.c.x) ∧ w.cell? ⟨b, o + i * 4 + 1, none⟩ = some (.int .i64 p.c.y) ∧ w.cell? ⟨b, o + i * 4 + 2, none⟩ = some (.int .i64 p.c.z) ∧ w.cell? ⟨b, o + i * 4 + 3, none⟩ = some (.int .i64 p.v) := by
  obtain ⟨b, o, ha, hb, hc⟩ := ER.addr e4c_len h hn
  refine ⟨b, o, ha, hb, fun i p hp => ?_⟩
  have h0 := hc i p hp 0 (by omega)
  have h1 := hc i p hp 1 (by omega)
  have h2 := hc i p hp 2 (by omega)
  have h3 := hc i p hp 3 (by omega)
  simp only [← Nat.add_assoc, Nat.add_zero] at h0 h1 h2 h3
  exact ⟨h0, h1, h2, h3⟩
set_option maxHeartbeats 1000000 in
set_option maxRecDepth 100000 in
theorem sameCells_same (l : List Cel) (a b : Option Addr) (n c d : Nat) (w : World) (hl : CelR w a n l) (hm : CelR w b n l) :
    Calls Tryz.prog 50 #[.slice a n c, .slice b n d] w fun e' w' => e' = .returned (.bool true) ∧ Below w.heap.size w w' := by
  have hn := hl.small
  have HL := Lib.hid hl
  have HM := Lib.hid hm
  clear hl hm
  have hnn : ((n : Int) != (n : Int)) = false := by simp
  go_enter Tryz.func50, Tryz.ntmps50
  go_wp2_with fail
  go_loopw [5] (fun i wr => ∃ k : Nat, i = .int .i64 (k : Int) ∧ k ≤ n ∧ ∃ t, wr = w.drewN t) (fun i _ => n - (intOf i).toNat)
  case atStart => exact ⟨0, rfl, Nat.zero_le _, 0, rfl⟩
  case round =>
    obtain ⟨k, rfl, hk, t, rfl⟩ := hrel
    have i0 : (0 : Int) ≤ (k : Int) := by omega
    by_cases hlt : k < n
    · have i1 : (k : Int) < (n : Int) := by omega
      obtain ⟨b1, o1, rfl, hb1, hc1⟩ := HL.out.addr4 (by omega)
      obtain ⟨b2, o2, rfl, hb2, hc2⟩ := HM.out.addr4 (by omega)
      obtain ⟨⟨⟨x1, x2, x3⟩, x4⟩, hx⟩ := ER.get HL.out hlt
      obtain ⟨p0, p1, p2, p3⟩ := hc1 k _ hx
      obtain ⟨s0, s1, s2, s3⟩ := hc2 k _ hx
      simp only at p0 p1 p2 p3 s0 s1 s2 s3
      clear hx hc1 hc2
      go_wp2_with fail
      go_quiet (fail)
      go_wp2
      go_roundw
      case rel => exact ⟨k + 1, by go_num, by omega, _, by first | rfl | exact World.drewN_drewN _ _ _ | simp [World.drewN_drewN]⟩
      case measure => simp [intOf]; omega
    · obtain rfl : k = n := by omega
      go_wp2
      go_ret
      exact ⟨rfl, by (repeat' (first | (with_reducible exact Below.refl _ _) | (with_reducible assumption) | (with_reducible refine Below.drewN ?_ _) | (with_reducible refine Below.alloc ?_ ?_ _) | (with_reducible refine Below.drew ?_) | (with_reducible refine Below.setCell ?_ ?_ _) | (with_reducible refine Below.step (by assumption) ?_ ?_) | (with_reducible exact And.left (by assumption)) | go_size))⟩
theorem wrap_pw : ∀ m, m ≤ 6 → wrap64 ((2 : Int) ^ m) = ((2 ^ m : Nat) : Int) := by decide +kernel
set_option maxHeartbeats 8000000 in
set_option maxRecDepth 100000 in
theorem rContra_any (g : Gri) (A : Arr) (a : Option Addr) (n cp : Nat) (w : World) (hl : SenR w a n A.l) (h0 : hE g A = 0) :
    Calls Tryz.prog 53 #[.agg #[.int .i64 g.f.x, .int .i64 g.f.y, .int .i64 g.f.z, .int .i64 g.st, .int .i64 g.c.x, .int .i64 g.c.y, .int .i64 g.c.z], .agg #[.int .i64 A.lo, .int .i64 A.hi, .slice a n cp]] w
      fun e' w' => ∃ a' k' c', e' = .returned (.tuple #[.slice a' k' c', .bool (decide (regV g A = []))]) ∧ Below w.heap.size w w' ∧ (regV g A = [] → IntsR w' a' k' (nats (ctrV g A).1)) := by
  have hl0 := hl
  obtain ⟨hg, ha⟩ := hE_zero h0
  obtain ⟨_, hv, hn2, hn5, hss⟩ := arrE_zero ha
  rw [hl.len] at hn2 hn5 hss
  have HRG0 := Lib.hid (fun (S : List Nat) (aS : Option Addr) (k cs : Nat) (W : World) (hb : Below w.heap.size w W) (hS : IntsR W aS k (nats S)) (hnd : S.Nodup) (hlt : ∀ i ∈ S, i < n) => rRegion_any g A S a aS n cp k cs W (hl0.below hb) hS hg hss hnd hlt hv)
  have HAL := Lib.hid (fun w' => all_any A.lo A.hi a n cp w' (by omega))
  obtain ⟨p, hp⟩ : ∃ p : List Nat → List Cel, p = fun S => regC (fun c => ansS g A c S) (gCells g) := ⟨_, rfl⟩
  obtain ⟨V, hV⟩ : ∃ V, V = regV g A := ⟨_, rfl⟩
  rw [← hV]
  have HVP := Lib.hid (show p (List.range n) = V by
    rw [hV, hp, regV_ok h0]
    dsimp only
    congr 1
    funext c
    rw [← hl.len]
    exact ansS_all g A c)
  have HSE := Lib.hid (fun (hv : V = []) => show (ctrV g A).1 = selX (fun S => emptyB g (subA A S)) n (2 ^ n) by rw [ctrV_yes h0 (by rw [← hV]; exact hv), hl.len])
  have HEB0 := Lib.hid (fun (S : List Nat) (hlt : ∀ i ∈ S, i < n) => show emptyB g (subA A S) = decide (p S = []) by rw [hp]; exact emptyS (by rw [hl.len]; exact hlt))
  have HRG := Lib.hid (fun (S : List Nat) (aS : Option Addr) (k cs : Nat) (W : World) (hb : Below w.heap.size w W) (hS : IntsR W aS k (nats S)) (hnd : S.Nodup) (hlt : ∀ i ∈ S, i < n) => show Calls Tryz.prog 51 #[.agg #[.int .i64 g.f.x, .int .i64 g.f.y, .int .i64 g.f.z, .int .i64 g.st, .int .i64 g.c.x, .int .i64 g.c.y, .int .i64 g.c.z], .agg #[.int .i64 A.lo, .int .i64 A.hi, .slice a n cp], .slice aS k cs] W fun e' w' => ∃ a' k' c', e' = .returned (.slice a' k' c') ∧ Below W.heap.size W w' ∧ CelR w' a' k' (p S) by rw [hp]; exact HRG0.out S aS k cs W hb hS hnd hlt)
  obtain ⟨e, he⟩ : ∃ e : List Nat → Bool, e = fun S => emptyB g (subA A S) := ⟨_, rfl⟩
  rw [← he] at HSE
  have HEB := Lib.hid (fun (S : List Nat) (hlt : ∀ i ∈ S, i < n) => show e S = decide (p S = []) by rw [he]; exact HEB0.out S hlt)
  generalize (ctrV g A).1 = R at *
  obtain ⟨BV, hBV⟩ : ∃ b, b = decide (V = []) := ⟨_, rfl⟩
  rw [← hBV]
  clear HRG0 HEB0 hl hl0 h0 hg ha hv hss hp hV he
  obtain ⟨⟨fx, fy, fz⟩, st, ⟨gx, gy, gz⟩⟩ := g
  obtain ⟨vl, vh, l⟩ := A
  simp only at *
  go_enter Tryz.func53, Tryz.ntmps53
  go_wp2_with fail
  obtain ⟨w4, hW⟩ : ∃ w4, w4 = (w.alloc (Obj.cells #[.int .i64 fx, .int .i64 fy, .int .i64 fz, .int .i64 st, .int .i64 gx, .int .i64 gy, .int .i64 gz] 90)).alloc (Obj.cells #[.int .i64 vl, .int .i64 vh, .slice a n cp] 93) := ⟨_, rfl⟩
  rw [← hW]
  have hb4 : Below w.heap.size w w4 := by rw [hW]; (repeat' (first | (with_reducible exact Below.refl _ _) | (with_reducible assumption) | (with_reducible refine Below.drewN ?_ _) | (with_reducible refine Below.alloc ?_ ?_ _) | (with_reducible refine Below.drew ?_) | (with_reducible refine Below.setCell ?_ ?_ _) | (with_reducible refine Below.step (by assumption) ?_ ?_) | (with_reducible exact And.left (by assumption)) | go_size))
  have kG : w4.heap[w.heap.size]? = some (.cells #[.int .i64 fx, .int .i64 fy, .int .i64 fz, .int .i64 st, .int .i64 gx, .int .i64 gy, .int .i64 gz] 90) := by
    rw [hW, Below.heap_alloc _ _ _ (by simp)]; exact heap_alloc_new _ _
  have kA : w4.heap[w.heap.size + 1]? = some (.cells #[.int .i64 vl, .int .i64 vh, .slice a n cp] 93) := by
    rw [hW]
    have := heap_alloc_new (w.alloc (Obj.cells #[.int .i64 fx, .int .i64 fy, .int .i64 fz, .int .i64 st, .int .i64 gx, .int .i64 gy, .int .i64 gz] 90)) (Obj.cells #[.int .i64 vl, .int .i64 vh, .slice a n cp] 93)
    simpa using this
  have HB := Lib.hid hb4
  clear hW hb4
  have hbr := Below.refl w4.heap.size w4
  obtain ⟨wq, hwq⟩ : ∃ w', w' = w4 := ⟨_, rfl⟩
  have kg := blk_below kG hbr
  have ka := blk_below kA hbr
  have q0 := blk_cell kg (i := 0) rfl
  have q1 := blk_cell kg (i := 1) rfl
  have q2 := blk_cell kg (i := 2) rfl
  have q3 := blk_cell kg (i := 3) rfl
  have q4 := blk_cell kg (i := 4) rfl
  have q5 := blk_cell kg (i := 5) rfl
  have q6 := blk_cell kg (i := 6) rfl
  have p0 := blk_cell ka (i := 0) rfl
  have p1 := blk_cell ka (i := 1) rfl
  have p2 := blk_cell ka (i := 2) rfl
  have lr0 := blk_lt kg
  have lr1 := blk_lt ka
  clear kg ka hwq wq
  clear hbr
  go_wp2_with fail
  refine wp_region_laterT (B := w4.heap.size) (.head 0 (.head 1 (.head 2 (.one 3 (.one 4 (.one 5 (.one 6 .done))))))) (by kernel_rfl) (by kernel_rfl) ?_
  repeat (refine tree_head rfl ?_; (show wpQuiet _ _ _ _ (_ :: _) _; go_big_quiet_step (fail)); refine wpQuiet_nil ?_)
  refine tree_one rfl ?_; go_wp2_with fail
  refine (HAL.out _).mono ?_
  rintro e5 w5 ⟨a5, c5, rfl, hb5, hi5⟩
  have HB5 := Lib.hid ((show Below w4.heap.size w4 w4.drew by (repeat' (first | (with_reducible exact Below.refl _ _) | (with_reducible assumption) | (with_reducible refine Below.drewN ?_ _) | (with_reducible refine Below.alloc ?_ ?_ _) | (with_reducible refine Below.drew ?_) | (with_reducible refine Below.setCell ?_ ?_ _) | (with_reducible refine Below.step (by assumption) ?_ ?_) | (with_reducible exact And.left (by assumption)) | go_size))).trans hb5)
  clear hb5 HAL
  go_wp2_with fail
  refine tailL_mk HB5.out ?_
  refine tree_one rfl ?_; go_wp2_with fail
  refine (HRG.out (List.range n) a5 n c5 _ (HB.out.trans (HB5.out.mono HB.out.size)) hi5 List.nodup_range (fun i hi => List.mem_range.1 hi)).mono ?_
  rintro e6 w6 ⟨a6, k6, c6, rfl, hb6, hr6⟩
  have HB6 := Lib.hid (HB5.out.trans (hb6.mono HB5.out.size))
  rw [HVP.out] at hr6
  have hlen := ER.len hr6
  have hk6 := hr6.small
  clear hb6 hi5 HVP hr6
  go_wp2_with fail
  refine tailL_mk HB6.out ?_
  refine tree_one rfl ?_; go_wp2_with fail
  refine tailL_mk HB6.out ?_
  refine tree_one rfl ?_; go_wp2_with fail
  refine tailL_mk HB6.out ?_
  refine tree_done ?_
  have hbr := HB6.out
  clear q0 q1 q2 q3 q4 q5 q6 p0 p1 p2 lr0 lr1
  have kG := blk_below kG hbr
  have kA := blk_below kA hbr
  have HBW := Lib.hid (HB.out.trans (HB6.out.mono HB.out.size))
  clear hbr HB HB5 HB6
  by_cases hV : V = []
  · have hk0 : k6 = 0 := by rw [← hlen, hV]; rfl
    have HR := Lib.hid (HSE.out hV)
    obtain rfl : BV = true := by rw [hBV]; exact decide_eq_true hV
    have hdd : decide (0 < k6) = false := decide_eq_false (by omega)
    simp only [hdd]
    have HK0 := Lib.hid hk0
    clear hlen hV HSE hk6 hBV hk0 hdd
    have h2m : 2 ^ n ≤ 64 := Nat.le_trans (Nat.pow_le_pow_right (by omega) (show n ≤ 6 by omega)) (by decide)
    have hw := wrap_pw n (by omega)
    obtain ⟨P, hP⟩ : ∃ P, P = 2 ^ n := ⟨_, rfl⟩
    rw [← hP] at hw h2m
    have h1P : 1 ≤ P := by rw [hP]; exact Nat.two_pow_pos n
    have HP := Lib.hid hP
    have HMM := Lib.hid (fun (k : Nat) (hk : k < P) (W : World) => members_any n k W (by omega) (by rw [← hP]; exact hk))
    rw [← hP] at HR
    clear hP
    go_wp2_with fail
    go_loopw [6, 7] (fun v i wr => ∃ (j kb : Nat) (av : Option Addr) (cv : Nat), i = .int .i64 (j : Int) ∧ v = .slice av kb cv ∧ 1 ≤ j ∧ j ≤ P ∧ Hid (IntsT wr av kb (nats (selX e n j))) ∧ Hid (Below w6.heap.size w6 wr)) (fun _ i _ => P - (intOf i).toNat)
    case atStart => exact ⟨1, 0, none, 0, rfl, rfl, Nat.le_refl _, h1P, Lib.hid (IntsT.of_owns (World.ownsRow_nil _ 0 _ _)), Lib.hid (Below.refl _ _)⟩
    case round =>
      obtain ⟨j, kb, av, cv, rfl, rfl, hj1, hj, hO, hB⟩ := hrel
      have j0 : (0 : Int) ≤ (j : Int) := by omega
      have hbr := hB.out
      obtain ⟨wq, hwq⟩ : ∃ w', w' = wr := ⟨_, rfl⟩
      have kg := blk_below kG hbr
      have ka := blk_below kA hbr
      have q0 := blk_cell kg (i := 0) rfl
      have q1 := blk_cell kg (i := 1) rfl
      have q2 := blk_cell kg (i := 2) rfl
      have q3 := blk_cell kg (i := 3) rfl
      have q4 := blk_cell kg (i := 4) rfl
      have q5 := blk_cell kg (i := 5) rfl
      have q6 := blk_cell kg (i := 6) rfl
      have p0 := blk_cell ka (i := 0) rfl
      have p1 := blk_cell ka (i := 1) rfl
      have p2 := blk_cell ka (i := 2) rfl
      have lr0 := blk_lt kg
      have lr1 := blk_lt ka
      clear kg ka hwq wq
      clear hbr
      have HBR := Lib.hid (HBW.out.trans (hB.out.mono HBW.out.size))
      by_cases hlt : j < P
      · have i1 : (j : Int) < (P : Int) := by omega
        have hmem := (allB_mem n (memB n 0 j)).1 (List.mem_map.2 ⟨j, List.mem_range.2 (by rw [← HP.out]; exact hlt), rfl⟩)
        have HND := Lib.hid (show (memB n 0 j).Nodup from hmem.1.imp (fun h => by omega))
        have HSB := Lib.hid hmem.2
        have HNX := Lib.hid (selX_succ e n j hj1)
        have hkbl : (selX e n j).length = kb := nats_len hO.out.1
        have hkb := hO.out.1.small
        clear hmem
        go_wp2_with fail
        refine (HMM.out j hlt _).mono ?_
        rintro e7 w7 ⟨a9, q9, c9, rfl, hb7, ho7⟩
        have HS := Lib.hid (IntsT.of_owns ho7)
        have HOb := Lib.hid (hO.out.keep hb7.size (fun B cc z hB => (KeepR.below hb7).2 _ _ _ _ (.inl rfl) hB))
        have HBX := Lib.hid (hB.out.trans (hb7.mono hB.out.size))
        clear q0 q1 q2 q3 q4 q5 q6 p0 p1 p2 lr0 lr1 hb7 ho7 hO hB HBR
        generalize memB n 0 j = S at *
        generalize hbs : selX e n j = T at *
        obtain ⟨T', hbs2⟩ : ∃ T', selX e n (j + 1) = T' := ⟨_, rfl⟩
        have HBS2 := Lib.hid hbs2
        rw [hbs2] at HNX
        clear hbs2
        have hq9l : S.length = q9 := nats_len HS.out.1
        have hq9 := HS.out.1.small
        clear hbs
        have hkk : T.length = kb := hkbl
        have HBF := Lib.hid (fun W (hb : Below w7.heap.size w7 W) => before_any S T a9 av q9 c9 kb cv W (HS.out.1.below hb) (HOb.out.1.below hb))
        have HW7 := Lib.hid (HBW.out.trans (HBX.out.mono HBW.out.size))
        have HXE := Lib.hid (HEB.out S HSB.out)
        unfold selB at HNX
        rw [hq9l, hkk] at HNX
        have hbr := HBX.out
        obtain ⟨wq, hwq⟩ : ∃ w', w' = w7 := ⟨_, rfl⟩
        have kg := blk_below kG hbr
        have ka := blk_below kA hbr
        have q0 := blk_cell kg (i := 0) rfl
        have q1 := blk_cell kg (i := 1) rfl
        have q2 := blk_cell kg (i := 2) rfl
        have q3 := blk_cell kg (i := 3) rfl
        have q4 := blk_cell kg (i := 4) rfl
        have q5 := blk_cell kg (i := 5) rfl
        have q6 := blk_cell kg (i := 6) rfl
        have p0 := blk_cell ka (i := 0) rfl
        have p1 := blk_cell ka (i := 1) rfl
        have p2 := blk_cell ka (i := 2) rfl
        have lr0 := blk_lt kg
        have lr1 := blk_lt ka
        clear kg ka hwq wq
        clear hbr
        by_cases hb0 : kb = 0
        · have b1 : ¬ ((0 : Int) < (kb : Int)) := by omega
          have hT0 : T = [] := List.eq_nil_of_length_eq_zero (by omega)
          have HT := Lib.hid (show T' = if e S = true then S else T by rw [HNX.out, if_neg (fun h => h.1 hT0)])
          clear HNX HBF hT0 hkbl hkk hb0
          go_wp2_with fail
          refine (HRG.out S a9 q9 c9 _ HW7.out HS.out.1 HND.out HSB.out).mono ?_
          rintro e10 w10 ⟨a10, k10, c10, rfl, hb10, hr10⟩
          have hl10 := ER.len hr10
          have hk10 := hr10.small
          have HOb := Lib.hid (HOb.out.keep hb10.size (fun B cc z hB => (KeepR.below hb10).2 _ _ _ _ (.inl rfl) hB))
          have HS := Lib.hid (HS.out.keep hb10.size (fun B cc z hB => (KeepR.below hb10).2 _ _ _ _ (.inl rfl) hB))
          have HBX := Lib.hid (HBX.out.trans (hb10.mono HBX.out.size))
          clear hb10 hr10 q0 q1 q2 q3 q4 q5 q6 p0 p1 p2 lr0 lr1 HW7
          by_cases hps : p S = []
          · have hk0 : k10 = 0 := by rw [← hl10, hps]; rfl
            subst hk0
            have HOK := Lib.hid (show IntsT w10 a9 q9 (nats (selX e n (j + 1))) by rw [HBS2.out, HT.out, if_pos (by rw [HXE.out, hps]; rfl)]; exact HS.out)
            clear HT HXE hps hl10 HOb
            go_wp2_with fail
            go_roundw
            case rel => exact ⟨j + 1, q9, a9, c9, by go_num, rfl, by omega, by omega, HOK, HBX⟩
            case measure => simp [intOf]; omega
          · have hk0 : ((k10 : Int) == 0) = false := by
              have : (p S).length ≠ 0 := fun h => hps (List.eq_nil_of_length_eq_zero h)
              simp; omega
            have HOK := Lib.hid (show IntsT w10 av kb (nats (selX e n (j + 1))) by rw [HBS2.out, HT.out, if_neg (by rw [HXE.out, decide_eq_false hps]; decide)]; exact HOb.out)
            clear HT HXE hps hl10 HOb
            go_wp2_with fail
            go_roundw
            case rel => exact ⟨j + 1, kb, av, cv, by go_num, rfl, by omega, by omega, HOK, HBX⟩
            case measure => simp [intOf]; omega
        · have b1 : (0 : Int) < (kb : Int) := by omega
          have hT0 : T ≠ [] := fun h => by rw [h] at hkk; simp at hkk; omega
          rcases Nat.lt_trichotomy kb q9 with hlt3 | heq | hgt
          · have b2 : (kb : Int) < (q9 : Int) := by omega
            have HT := Lib.hid (show T' = T by rw [HNX.out, if_pos ⟨hT0, .inl hlt3⟩])
            clear HNX HBF hT0 hkbl hkk
            have HOK := Lib.hid (show IntsT w7 av kb (nats (selX e n (j + 1))) by rw [HBS2.out, HT.out]; exact HOb.out)
            go_wp2_with fail
            go_roundw
            case rel => exact ⟨j + 1, kb, av, cv, by go_num, rfl, by omega, by omega, HOK, HBX⟩
            case measure => simp [intOf]; omega
          · have b2 : ¬ ((kb : Int) < (q9 : Int)) := by omega
            have hbb : ((q9 : Int) == (kb : Int)) = true := by simp; omega
            cases hbf : bef S T
            · have HT := Lib.hid (show T' = T by rw [HNX.out, if_pos ⟨hT0, .inr ⟨heq.symm, hbf⟩⟩])
              rw [hbf] at HBF
              clear HNX hT0 hkbl hkk hbf heq
              go_wp2_with fail
              refine (HBF.out w7 (Below.refl _ _)).mono ?_
              rintro e8 w8 ⟨rfl, m8, hw8⟩
              have hb8 : Below w7.heap.size w7 w8 := by rw [hw8]; (repeat' (first | (with_reducible exact Below.refl _ _) | (with_reducible assumption) | (with_reducible refine Below.drewN ?_ _) | (with_reducible refine Below.alloc ?_ ?_ _) | (with_reducible refine Below.drew ?_) | (with_reducible refine Below.setCell ?_ ?_ _) | (with_reducible refine Below.step (by assumption) ?_ ?_) | (with_reducible exact And.left (by assumption)) | go_size))
              clear hw8 q0 q1 q2 q3 q4 q5 q6 p0 p1 p2 lr0 lr1 HBF
              have HOb := Lib.hid (HOb.out.keep hb8.size (fun B cc z hB => (KeepR.below hb8).2 _ _ _ _ (.inl rfl) hB))
              have HS := Lib.hid (HS.out.keep hb8.size (fun B cc z hB => (KeepR.below hb8).2 _ _ _ _ (.inl rfl) hB))
              have HBX := Lib.hid (HBX.out.trans (hb8.mono HBX.out.size))
              have HW7 := Lib.hid (HBW.out.trans (HBX.out.mono HBW.out.size))
              have hbr := HBX.out
              obtain ⟨wq, hwq⟩ : ∃ w', w' = w8 := ⟨_, rfl⟩
              have kg := blk_below kG hbr
              have ka := blk_below kA hbr
              have q0 := blk_cell kg (i := 0) rfl
              have q1 := blk_cell kg (i := 1) rfl
              have q2 := blk_cell kg (i := 2) rfl
              have q3 := blk_cell kg (i := 3) rfl
              have q4 := blk_cell kg (i := 4) rfl
              have q5 := blk_cell kg (i := 5) rfl
              have q6 := blk_cell kg (i := 6) rfl
              have p0 := blk_cell ka (i := 0) rfl
              have p1 := blk_cell ka (i := 1) rfl
              have p2 := blk_cell ka (i := 2) rfl
              have lr0 := blk_lt kg
              have lr1 := blk_lt ka
              clear kg ka hwq wq
              clear hbr hb8
              have HOK := Lib.hid (show IntsT w8 av kb (nats (selX e n (j + 1))) by rw [HBS2.out, HT.out]; exact HOb.out)
              go_wp2_with fail
              go_roundw
              case rel => exact ⟨j + 1, kb, av, cv, by go_num, rfl, by omega, by omega, HOK, HBX⟩
              case measure => simp [intOf]; omega
            · have HT := Lib.hid (show T' = if e S = true then S else T by rw [HNX.out, if_neg (fun h => by rcases h.2 with h | h; omega; rw [hbf] at h; exact absurd h.2 (by decide))])
              rw [hbf] at HBF
              clear HNX hT0 hkbl hkk hbf heq
              go_wp2_with fail
              refine (HBF.out w7 (Below.refl _ _)).mono ?_
              rintro e8 w8 ⟨rfl, m8, hw8⟩
              have hb8 : Below w7.heap.size w7 w8 := by rw [hw8]; (repeat' (first | (with_reducible exact Below.refl _ _) | (with_reducible assumption) | (with_reducible refine Below.drewN ?_ _) | (with_reducible refine Below.alloc ?_ ?_ _) | (with_reducible refine Below.drew ?_) | (with_reducible refine Below.setCell ?_ ?_ _) | (with_reducible refine Below.step (by assumption) ?_ ?_) | (with_reducible exact And.left (by assumption)) | go_size))
              clear hw8 q0 q1 q2 q3 q4 q5 q6 p0 p1 p2 lr0 lr1 HBF
              have HOb := Lib.hid (HOb.out.keep hb8.size (fun B cc z hB => (KeepR.below hb8).2 _ _ _ _ (.inl rfl) hB))
              have HS := Lib.hid (HS.out.keep hb8.size (fun B cc z hB => (KeepR.below hb8).2 _ _ _ _ (.inl rfl) hB))
              have HBX := Lib.hid (HBX.out.trans (hb8.mono HBX.out.size))
              have HW7 := Lib.hid (HBW.out.trans (HBX.out.mono HBW.out.size))
              have hbr := HBX.out
              obtain ⟨wq, hwq⟩ : ∃ w', w' = w8 := ⟨_, rfl⟩
              have kg := blk_below kG hbr
              have ka := blk_below kA hbr
              have q0 := blk_cell kg (i := 0) rfl
              have q1 := blk_cell kg (i := 1) rfl
              have q2 := blk_cell kg (i := 2) rfl
              have q3 := blk_cell kg (i := 3) rfl
              have q4 := blk_cell kg (i := 4) rfl
              have q5 := blk_cell kg (i := 5) rfl
              have q6 := blk_cell kg (i := 6) rfl
              have p0 := blk_cell ka (i := 0) rfl
              have p1 := blk_cell ka (i := 1) rfl
              have p2 := blk_cell ka (i := 2) rfl
              have lr0 := blk_lt kg
              have lr1 := blk_lt ka
              clear kg ka hwq wq
              clear hbr hb8
              go_wp2_with fail
              refine (HRG.out S a9 q9 c9 _ HW7.out HS.out.1 HND.out HSB.out).mono ?_
              rintro e10 w10 ⟨a10, k10, c10, rfl, hb10, hr10⟩
              have hl10 := ER.len hr10
              have hk10 := hr10.small
              have HOb := Lib.hid (HOb.out.keep hb10.size (fun B cc z hB => (KeepR.below hb10).2 _ _ _ _ (.inl rfl) hB))
              have HS := Lib.hid (HS.out.keep hb10.size (fun B cc z hB => (KeepR.below hb10).2 _ _ _ _ (.inl rfl) hB))
              have HBX := Lib.hid (HBX.out.trans (hb10.mono HBX.out.size))
              clear hb10 hr10 q0 q1 q2 q3 q4 q5 q6 p0 p1 p2 lr0 lr1 HW7
              by_cases hps : p S = []
              · have hk0 : k10 = 0 := by rw [← hl10, hps]; rfl
                subst hk0
                have HOK := Lib.hid (show IntsT w10 a9 q9 (nats (selX e n (j + 1))) by rw [HBS2.out, HT.out, if_pos (by rw [HXE.out, hps]; rfl)]; exact HS.out)
                clear HT HXE hps hl10 HOb
                go_wp2_with fail
                go_roundw
                case rel => exact ⟨j + 1, q9, a9, c9, by go_num, rfl, by omega, by omega, HOK, HBX⟩
                case measure => simp [intOf]; omega
              · have hk0 : ((k10 : Int) == 0) = false := by
                  have : (p S).length ≠ 0 := fun h => hps (List.eq_nil_of_length_eq_zero h)
                  simp; omega
                have HOK := Lib.hid (show IntsT w10 av kb (nats (selX e n (j + 1))) by rw [HBS2.out, HT.out, if_neg (by rw [HXE.out, decide_eq_false hps]; decide)]; exact HOb.out)
                clear HT HXE hps hl10 HOb
                go_wp2_with fail
                go_roundw
                case rel => exact ⟨j + 1, kb, av, cv, by go_num, rfl, by omega, by omega, HOK, HBX⟩
                case measure => simp [intOf]; omega
          · have b2 : ¬ ((kb : Int) < (q9 : Int)) := by omega
            have b3 : ((q9 : Int) == (kb : Int)) = false := by simp; omega
            have HT := Lib.hid (show T' = if e S = true then S else T by rw [HNX.out, if_neg (fun h => by omega)])
            clear HNX HBF hT0 hkbl hkk
            go_wp2_with fail
            refine (HRG.out S a9 q9 c9 _ HW7.out HS.out.1 HND.out HSB.out).mono ?_
            rintro e10 w10 ⟨a10, k10, c10, rfl, hb10, hr10⟩
            have hl10 := ER.len hr10
            have hk10 := hr10.small
            have HOb := Lib.hid (HOb.out.keep hb10.size (fun B cc z hB => (KeepR.below hb10).2 _ _ _ _ (.inl rfl) hB))
            have HS := Lib.hid (HS.out.keep hb10.size (fun B cc z hB => (KeepR.below hb10).2 _ _ _ _ (.inl rfl) hB))
            have HBX := Lib.hid (HBX.out.trans (hb10.mono HBX.out.size))
            clear hb10 hr10 q0 q1 q2 q3 q4 q5 q6 p0 p1 p2 lr0 lr1 HW7
            by_cases hps : p S = []
            · have hk0 : k10 = 0 := by rw [← hl10, hps]; rfl
              subst hk0
              have HOK := Lib.hid (show IntsT w10 a9 q9 (nats (selX e n (j + 1))) by rw [HBS2.out, HT.out, if_pos (by rw [HXE.out, hps]; rfl)]; exact HS.out)
              clear HT HXE hps hl10 HOb
              go_wp2_with fail
              go_roundw
              case rel => exact ⟨j + 1, q9, a9, c9, by go_num, rfl, by omega, by omega, HOK, HBX⟩
              case measure => simp [intOf]; omega
            · have hk0 : ((k10 : Int) == 0) = false := by
                have : (p S).length ≠ 0 := fun h => hps (List.eq_nil_of_length_eq_zero h)
                simp; omega
              have HOK := Lib.hid (show IntsT w10 av kb (nats (selX e n (j + 1))) by rw [HBS2.out, HT.out, if_neg (by rw [HXE.out, decide_eq_false hps]; decide)]; exact HOb.out)
              clear HT HXE hps hl10 HOb
              go_wp2_with fail
              go_roundw
              case rel => exact ⟨j + 1, kb, av, cv, by go_num, rfl, by omega, by omega, HOK, HBX⟩
              case measure => simp [intOf]; omega
      · obtain rfl : j = P := by omega
        go_wp2
        go_ret2
        exact ⟨av, kb, cv, rfl, HBR.out, fun _ => by rw [HR.out]; exact hO.out.1⟩
  · have hk0 : (0 : Int) < (k6 : Int) := by
      have : V.length ≠ 0 := fun h => hV (List.eq_nil_of_length_eq_zero h)
      omega
    obtain rfl : BV = false := by rw [hBV]; exact decide_eq_false hV
    have HV := Lib.hid hV
    clear hlen hV HSE hBV
    go_wp2
    go_ret2
    exact ⟨none, 0, 0, rfl, HBW.out, fun h => absurd h HV.out⟩
end Go.Proofs.YthkekjgdknnaiaaGreat
