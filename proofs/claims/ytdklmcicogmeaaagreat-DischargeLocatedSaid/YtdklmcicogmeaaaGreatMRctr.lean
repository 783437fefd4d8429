import Derived.ChangeKeysEq
import Derived.Test.YtdklmcicogmeaaaGreatBlk
import Derived.Test.YtdklmcicogmeaaaGreatMAnsw
import Derived.Test.YtdklmcicogmeaaaGreatMCon
import Derived.Test.YtdklmcicogmeaaaGreatMDLevO
import Derived.Test.YtdklmcicogmeaaaGreatMDRespX
import Derived.Test.YtdklmcicogmeaaaGreatMReg
import Derived.Test.YtdklmcicogmeaaaGreatRCopyA
/- The region of some sensors: the reference's functions. -/
namespace Go.Proofs.YtdklmcicogmeaaaGreat
open Go.RowKit
set_option linter.unusedVariables false
end Go.Proofs.YtdklmcicogmeaaaGreat

/- Regions and contradicting sensors: no program in sight. -/
namespace Go.Proofs.YtdklmcicogmeaaaGreat
set_option linter.unusedVariables false

theorem excl_sub {g : Gri} {A : Arr} {c : T3} {S : List Nat} {x y : Nat} (h : ∀ i ∈ S, i < A.l.length) (hx : x < S.length) (hy : y < S.length) : excl g (subA A S) c x y = exS g A c S x y := by
  unfold exS excl lat dAt subA
  dsimp only
  rw [nats_sub h hx, nats_sub h hy]
theorem keep_sub {g : Gri} {A : Arr} {c : T3} {v : Int} {S : List Nat} {x y : Nat} (h : ∀ i ∈ S, i < A.l.length) (hx : x < S.length) (hy : y < S.length) : keep g (subA A S) c v x y = kpS g A c v S x y := by
  unfold kpS keep lat dAt subA
  dsimp only
  rw [nats_sub h hx, nats_sub h hy]
theorem ansS_sub {g : Gri} {A : Arr} {c : T3} {S : List Nat} (h : ∀ i ∈ S, i < A.l.length) : ansS g A c S = ans g (subA A S) c := by
  have hl : (subA A S).l.length = S.length := by unfold subA; simp
  unfold ansS ans
  rw [hl]
  rw [allP_congr (p := fun i j => !excl g (subA A S) c i j) (q := fun x y => !exS g A c S x y) (fun i j hi hj => by rw [excl_sub h hi hj]),
    allP_congr (p := keep g (subA A S) c (subA A S).lo) (q := kpS g A c A.lo S) (fun i j hi hj => keep_sub h hi hj),
    allP_congr (p := keep g (subA A S) c (subA A S).hi) (q := kpS g A c A.hi S) (fun i j hi hj => keep_sub h hi hj)]
theorem regC_nil {p : T3 → Int} {L : List T3} : regC p L = [] ↔ L.all (fun c => decide (p c = 0)) = true := by
  unfold regC
  rw [List.filterMap_eq_nil_iff, List.all_eq_true]
  constructor
  · intro h c hc
    have := h c hc
    by_cases h0 : p c = 0
    · simpa using h0
    · rw [if_neg h0] at this; cases this
  · intro h c hc
    have := h c hc
    rw [decide_eq_true_eq] at this
    rw [if_pos this]
theorem emptyS {g : Gri} {A : Arr} {S : List Nat} (h : ∀ i ∈ S, i < A.l.length) : emptyB g (subA A S) = decide (regC (fun c => ansS g A c S) (gCells g) = []) := by
  rw [Bool.eq_iff_iff, decide_eq_true_eq, regC_nil]
  unfold emptyB
  rw [show (fun c => decide (ans g (subA A S) c = 0)) = (fun c => decide (ansS g A c S = 0)) from funext fun c => by rw [ansS_sub h]]
theorem ansS_pos {g : Gri} {A : Arr} {c : T3} {S : List Nat} : ansS g A c S ≠ 0 ↔ ∀ x y, x < S.length → y < S.length → x ≠ y → exS g A c S x y = false := by
  unfold ansS
  by_cases h : allP S.length (fun x y => !exS g A c S x y) = true
  · rw [if_pos h]
    constructor
    · intro _ x y hx hy hxy
      have := allP_iff.1 h x y hx hy hxy
      simpa using this
    · intro _
      split <;> decide
  · rw [if_neg h]
    constructor
    · intro h0; exact absurd rfl h0
    · intro h1
      exact absurd (allP_iff.2 (fun i j hi hj hij => by rw [h1 i j hi hj hij]; rfl)) h
theorem gCells_zero {g : Gri} (hg : griE g = 0) : (⟨0, 0, 0⟩ : T3) ∈ gCells g := by
  have h := cnt_iff.1 (griE_zero hg).2.2
  unfold gCells
  exact cellsX_mem.2 ⟨0, 0, 0, by omega, by omega, by omega, rfl⟩
/-- One sensor alone excludes nothing. -/
theorem one_full {g : Gri} {A : Arr} (hg : griE g = 0) {x : List Nat} (h1 : x.length = 1) (h : ∀ i ∈ x, i < A.l.length) : emptyB g (subA A x) = false := by
  rw [Bool.eq_false_iff]
  intro he
  unfold emptyB at he
  rw [List.all_eq_true] at he
  have h2 := he _ (gCells_zero hg)
  rw [decide_eq_true_eq, ← ansS_sub h] at h2
  exact absurd h2 (ansS_pos.2 (fun i j hi hj hij => by omega))
/-- What some sensors exclude all of them exclude. -/
theorem empty_mono {g : Gri} {A : Arr} {S : List Nat} (hn : S.Nodup) (h : ∀ i ∈ S, i < A.l.length) (he : emptyB g (subA A S) = true) : regC (ans g A) (gCells g) = [] := by
  rw [emptyS h, decide_eq_true_eq, regC_nil, List.all_eq_true] at he
  rw [regC_nil, List.all_eq_true]
  intro c hc
  have h1 := he c hc
  rw [decide_eq_true_eq] at h1 ⊢
  by_cases h0 : ans g A c = 0
  · exact h0
  · exfalso
    rw [← ansS_all, ← ne_eq, ansS_pos] at h0
    refine absurd h1 (ansS_pos.2 (fun x y hx hy hxy => ?_))
    have gx := getD_lt h hx
    have gy := getD_lt h hy
    have := h0 (S.getD x 0) (S.getD y 0) (by rw [List.length_range]; exact gx) (by rw [List.length_range]; exact gy) (fun e => hxy (nodup_getD hn hx hy e))
    unfold exS at this ⊢
    rwa [range_getD gx, range_getD gy] at this
theorem ext_nd {m k : Nat} {S : List Nat} (h : S ∈ ext m k 0) : S.Nodup ∧ S.length = k ∧ ∀ x ∈ S, x < m := by
  obtain ⟨h1, h2, h3⟩ := (ext_mem m k 0 S).1 h
  exact ⟨h2.imp (fun h => by omega), h1, fun x hx => (h3 x hx).2⟩
theorem regV_ok {g : Gri} {A : Arr} (h0 : hE g A = 0) : regV g A = regC (ans g A) (gCells g) := by
  unfold regV; rw [if_neg (by rw [h0]; decide)]
theorem ctrV_no {g : Gri} {A : Arr} (h0 : hE g A = 0) (hr : regV g A ≠ []) : ctrV g A = ([], 12) := by
  unfold ctrV
  rw [if_neg (by rw [h0]; decide)]
  cases h : ctrO g A with
  | none => rfl
  | some S =>
    exfalso
    unfold ctrO at h
    obtain ⟨j, _, _, hf, _⟩ := ctrS_some h
    obtain ⟨h1, h2, h3⟩ := ext_nd (List.mem_of_find?_eq_some hf)
    exact hr ((regV_ok h0).trans (empty_mono h1 h3 (List.find?_some (p := fun S => emptyB g (subA A S)) hf)))
theorem ctrV_yes {g : Gri} {A : Arr} (h0 : hE g A = 0) (hr : regV g A = []) : ctrV g A = (selX (fun S => emptyB g (subA A S)) A.l.length (2 ^ A.l.length), 0) := by
  obtain ⟨hg, ha⟩ := hE_zero h0
  obtain ⟨_, _, hn2, hn5, _⟩ := arrE_zero ha
  rw [sel_ctr (fun x h1 hx => one_full hg h1 ((allB_mem _ _).1 hx).2)]
  unfold ctrV
  rw [if_neg (by rw [h0]; decide)]
  cases h : ctrO g A with
  | some S => unfold ctrO at h; rw [h]; rfl
  | none =>
    exfalso
    unfold ctrO at h
    have hall : List.range A.l.length ∈ ext A.l.length A.l.length 0 := (ext_mem _ _ _ _).2 ⟨List.length_range, List.pairwise_lt_range, fun x hx => ⟨Nat.zero_le _, List.mem_range.1 hx⟩⟩
    have h1 := ctrS_none h A.l.length (by omega) (by omega) _ hall
    rw [emptyS (fun i hi => List.mem_range.1 hi), decide_eq_false_iff_not] at h1
    refine h1 ?_
    rw [← hr, regV_ok h0]
    congr 1
    funext c
    exact ansS_all g A c
end Go.Proofs.YtdklmcicogmeaaaGreat

/- The minimum set of sensors that contradict each other: the reference's function; equal cells. -/
namespace Go.Proofs.YtdklmcicogmeaaaGreat
open Go.RowKit
set_option linter.unusedVariables false

theorem arr3 (w : World) (a b c : Int) : (Op.equalIn 9999 22 (.agg #[.int .i64 a, .int .i64 b, .int .i64 c]) (.agg #[.int .i64 a, .int .i64 b, .int .i64 c])).run Tryz.prog w = .ok true w := by
  obtain ⟨i, hi, _⟩ := info_parts infoInt
  have hc : Tryz.prog.cellsOf 3 = 1 := by kernel_rfl
  rw [show 9999 = 9998 + 1 from rfl, run_equalIn_array w 9998 _ _ (by first | exact Tryz.underlying22 | kernel_rfl) hi, hc]
  simp [Op.eqItems, List.range, List.range.loop, part, go_sem]
theorem run_neq_cell (w : World) (a b c d : Int) : (binOp .neq 132 (.agg #[.int .i64 a, .int .i64 b, .int .i64 c, .int .i64 d]) (.agg #[.int .i64 a, .int .i64 b, .int .i64 c, .int .i64 d])).run Tryz.prog w = .ok (.bool false) w := by
  simp [go_sem, Tryz.underlying132, arr3]
attribute [local go_sem] run_neq_cell arr3
theorem CelR.addr4 {w : World} {a : Option Addr} {n : Nat} {l : List Cel} (h : CelR w a n l) (hn : 0 < n) :
    ∃ b o, a = some ⟨b, o, none⟩ ∧ b < w.heap.size ∧ ∀ i p, l[i]? = some p → w.cell? ⟨b, o + i * 4, none⟩ = some (.int .i64 p.c.x) ∧ w.cell? ⟨b, o + i * 4 + 1, none⟩ = some (.int .i64 p.c.y) ∧ w.cell? ⟨b, o + i * 4 + 2, none⟩ = some (.int .i64 p.c.z) ∧ w.cell? ⟨b, o + i * 4 + 3, none⟩ = some (.int .i64 p.v) := by
  obtain ⟨b, o, ha, hb, hc⟩ := ER.addr e4c_len h hn
  refine ⟨b, o, ha, hb, fun i p hp => ?_⟩
  have h0 := hc i p hp 0 (by omega)
  have h1 := hc i p hp 1 (by omega)
  have h2 := hc i p hp 2 (by omega)
  have h3 := hc i p hp 3 (by omega)
  simp only [← Nat.add_assoc, Nat.add_zero] at h0 h1 h2 h3
  exact ⟨h0, h1, h2, h3⟩
theorem wrap_pw : ∀ m, m ≤ 6 → wrap64 ((2 : Int) ^ m) = ((2 ^ m : Nat) : Int) := by decide +kernel
end Go.Proofs.YtdklmcicogmeaaaGreat
