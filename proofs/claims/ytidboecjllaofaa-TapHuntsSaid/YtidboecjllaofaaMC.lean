import Derived.Deep.Heap
import Derived.OneCell
import Derived.Test.YtidboecjllaofaaMA
import Derived.Test.YtidboecjllaofaaMB
/- A block that is known whole: its cells, and what a store leaves of it. -/
namespace Go.Proofs.Ytidboecjllaofaa
open Go.RowKit
set_option linter.unusedVariables false

theorem blk_set {w : World} {b : Nat} {t : TypeId} {cs : Array Value} (h : w.heap[b]? = some (.cells cs t)) (i : Nat) (v : Value) : (w.setCell ⟨b, i, none⟩ v).heap[b]? = some (.cells (cs.setIfInBounds i v) t) := by
  simp [World.setCell, Array.getElem?_modify, h]
theorem blk_lt {w : World} {b : Nat} {o : Obj} (h : w.heap[b]? = some o) : b < w.heap.size := (Array.getElem?_eq_some_iff.1 h).1
theorem blk_cell {w : World} {b : Nat} {t : TypeId} {cs : Array Value} (h : w.heap[b]? = some (.cells cs t)) {i : Nat} {v : Value} (hv : cs[i]? = some v) : w.cell? ⟨b, i, none⟩ = some v := (cell_of_row w b i cs t _ h).trans hv
theorem blk_fz {w : World} {b : Nat} {t : TypeId} {cs : Array Value} (h : w.heap[b]? = some (.cells cs t)) (i : Nat) : w.frozen? ⟨b, i, none⟩ = false := frozen_of_row w b i cs t h
theorem blk_below {w w' : World} {b : Nat} {o : Obj} (h : w.heap[b]? = some o) (hb : Below w.heap.size w w') : w'.heap[b]? = some o := (hb.block b (blk_lt h)).trans h
end Go.Proofs.Ytidboecjllaofaa

/- Machines in memory; the reference's errors of machines, states, contacts, loads and limits. -/
namespace Go.Proofs.Ytidboecjllaofaa
open Go.RowKit
set_option linter.unusedVariables false
set_option linter.unusedSimpArgs false

def eB (b : Brn) : List Value := [.int .i64 b.tap, .int .i64 b.res]
theorem eB_len (b : Brn) : (eB b).length = 2 := rfl
theorem eB_one (b : Brn) : ∀ u ∈ eB b, u.oneCell' = true := fun u hu => by
  simp only [eB, List.mem_cons, List.not_mem_nil, or_false] at hu
  rcases hu with rfl | rfl <;> rfl
def eG (g : Grd) : List Value := [.int .i64 g.c, .bool g.cl, .int .i64 g.ci, .int .i64 g.op]
theorem eG_len (g : Grd) : (eG g).length = 4 := rfl
theorem eG_one (g : Grd) : ∀ u ∈ eG g, u.oneCell' = true := fun u hu => by
  simp only [eG, List.mem_cons, List.not_mem_nil, or_false] at hu
  rcases hu with rfl | rfl | rfl | rfl <;> rfl
def BrR (w : World) (a : Option Addr) (n : Nat) (l : List Brn) : Prop := ER eB 2 w a n l
def GrR (w : World) (a : Option Addr) (n : Nat) (l : List Grd) : Prop := ER eG 4 w a n l
theorem BrR.below {w w' : World} {a : Option Addr} {n : Nat} {l : List Brn} (h : BrR w a n l) (hb : Below w.heap.size w w') : BrR w' a n l := ER.below h hb
theorem GrR.below {w w' : World} {a : Option Addr} {n : Nat} {l : List Grd} (h : GrR w a n l) (hb : Below w.heap.size w w') : GrR w' a n l := ER.below h hb
theorem BrR.len {w : World} {a : Option Addr} {n : Nat} {l : List Brn} (h : BrR w a n l) : l.length = n := h.1
theorem GrR.len {w : World} {a : Option Addr} {n : Nat} {l : List Grd} (h : GrR w a n l) : l.length = n := h.1
theorem BrR.small {w : World} {a : Option Addr} {n : Nat} {l : List Brn} (h : BrR w a n l) : n ≤ 9223372036854775807 := ER.small h
theorem GrR.small {w : World} {a : Option Addr} {n : Nat} {l : List Grd} (h : GrR w a n l) : n ≤ 9223372036854775807 := ER.small h
theorem BrR.addr {w : World} {a : Option Addr} {n : Nat} {l : List Brn} (h : BrR w a n l) (hn : 0 < n) :
    ∃ b o, a = some ⟨b, o, none⟩ ∧ b < w.heap.size ∧ ∀ i, i < n → w.cell? ⟨b, o + i * 2, none⟩ = some (.int .i64 (bAt l i).tap) ∧ w.cell? ⟨b, o + i * 2 + 1, none⟩ = some (.int .i64 (bAt l i).res) := by
  obtain ⟨b, o, ha, hb, hc⟩ := ER.addr eB_len h hn
  refine ⟨b, o, ha, hb, fun i hi => ?_⟩
  obtain ⟨x, hx⟩ := ER.get h hi
  have e : bAt l i = x := by unfold bAt; simp [List.getD, hx]
  rw [e]
  have h0 := hc i x hx 0 (by omega)
  have h1 := hc i x hx 1 (by omega)
  simp only [← Nat.add_assoc, Nat.add_zero] at h0 h1
  exact ⟨h0, h1⟩
theorem GrR.addr {w : World} {a : Option Addr} {n : Nat} {l : List Grd} (h : GrR w a n l) (hn : 0 < n) :
    ∃ b o, a = some ⟨b, o, none⟩ ∧ b < w.heap.size ∧ ∀ i, i < n → w.cell? ⟨b, o + i * 4, none⟩ = some (.int .i64 (gAt l i).c) ∧ w.cell? ⟨b, o + i * 4 + 1, none⟩ = some (.bool (gAt l i).cl) ∧ w.cell? ⟨b, o + i * 4 + 2, none⟩ = some (.int .i64 (gAt l i).ci) ∧ w.cell? ⟨b, o + i * 4 + 3, none⟩ = some (.int .i64 (gAt l i).op) := by
  obtain ⟨b, o, ha, hb, hc⟩ := ER.addr eG_len h hn
  refine ⟨b, o, ha, hb, fun i hi => ?_⟩
  obtain ⟨x, hx⟩ := ER.get h hi
  have e : gAt l i = x := by unfold gAt; simp [List.getD, hx]
  rw [e]
  have h0 := hc i x hx 0 (by omega)
  have h1 := hc i x hx 1 (by omega)
  have h2 := hc i x hx 2 (by omega)
  have h3 := hc i x hx 3 (by omega)
  simp only [← Nat.add_assoc, Nat.add_zero] at h0 h1 h2 h3
  exact ⟨h0, h1, h2, h3⟩
theorem pow_facts : ∀ n ≤ 8, wrap64 ((2 : Int) ^ n) = 2 ^ n ∧ wrap64 ((2 : Int) ^ n - 1) = 2 ^ n - 1 ∧ 1 ≤ (2 : Int) ^ n ∧ (2 : Int) ^ n ≤ 256 := by decide +kernel
theorem pow_wrap {n : Nat} (h : n ≤ 8) : ∃ p : Int, p = 2 ^ n ∧ wrap64 ((2 : Int) ^ n) = p ∧ IntKind.i64.wrap (p - 1) = p - 1 ∧ 1 ≤ p ∧ p ≤ 256 := by
  obtain ⟨h1, h2, h3, h4⟩ := pow_facts n h
  exact ⟨_, rfl, h1, by rw [IntKind.wrap_i64]; omega, h3, h4⟩
theorem limE_cases (l : Lim) : limE l = if (wi l.volt 0 1000 && wi l.lo (-1000) 1000 && wi l.hi (-1000) 1000) = false then 2 else if l.hi < l.lo then 9 else if (wi l.circ 0 1000 && wi l.brk 0 1000 && wi l.ret 0 1000) = false then 2 else 0 := by
  unfold limE
  cases (wi l.volt 0 1000 && wi l.lo (-1000) 1000 && wi l.hi (-1000) 1000)
  · simp [firstErr, unl]
  · by_cases h : l.lo ≤ l.hi
    · have h' : ¬ l.hi < l.lo := by omega
      cases (wi l.circ 0 1000 && wi l.brk 0 1000 && wi l.ret 0 1000) <;> simp [firstErr, unl, h, h']
    · have h' : l.hi < l.lo := by omega
      simp [firstErr, unl, h, h']
theorem trn_minus : ∀ s < 64, ∀ i < 6, s.testBit i = true → ((s : Nat) : Int) - 2 ^ i = ((s ^^^ 2 ^ i : Nat) : Int) := by decide +kernel
theorem trn_plus : ∀ s < 64, ∀ i < 6, s.testBit i = false → ((s : Nat) : Int) + 2 ^ i = ((s ^^^ 2 ^ i : Nat) : Int) := by decide +kernel
end Go.Proofs.Ytidboecjllaofaa

/- Machines: the reference's check, copies; few, bothErr. -/
namespace Go.Proofs.Ytidboecjllaofaa
open Go.RowKit
set_option linter.unusedVariables false
set_option linter.unusedSimpArgs false

theorem macE_h {m : Mac} (h : macH m.br.length ≠ 0) : macE m = (0, macH m.br.length) := by unfold macE; rw [if_pos h]
theorem macE_b {m : Mac} (h : macH m.br.length = 0) (h2 : (firstAt (fun k => brnE (bAt m.br k)) m.br.length 0).2 ≠ 0) : macE m = firstAt (fun k => brnE (bAt m.br k)) m.br.length 0 := by
  unfold macE; rw [if_neg (by rw [h]; decide), if_pos h2]
theorem macE_k {m : Mac} (h : macH m.br.length = 0) (h2 : (firstAt (fun k => brnE (bAt m.br k)) m.br.length 0).2 = 0) (h3 : macK m ≠ 0) : macE m = (0, macK m) := by
  unfold macE; rw [if_neg (by rw [h]; decide), if_neg (by rw [h2]; decide), if_pos h3]
theorem macE_g {m : Mac} (h : macH m.br.length = 0) (h2 : (firstAt (fun k => brnE (bAt m.br k)) m.br.length 0).2 = 0) (h3 : macK m = 0) : macE m = firstAt (fun k => grdE m.br.length (gAt m.gs k)) m.gs.length 0 := by
  unfold macE; rw [if_neg (by rw [h]; decide), if_neg (by rw [h2]; decide), if_neg (by rw [h3]; decide)]
theorem macH_zero {n : Nat} : macH n = 0 ↔ 0 < n ∧ n ≤ 6 := by
  unfold macH
  rw [firstErr_cons, firstErr_cons, unl_eq_zero (by decide), unl_eq_zero (by decide), decide_eq_true_eq, decide_eq_true_eq]
  constructor
  · rintro ⟨a, b, _⟩; omega
  · rintro ⟨a, b⟩; exact ⟨a, by omega, rfl⟩
theorem macH_nil : macH 0 = 10 := by decide
theorem macH_large {n : Nat} (h : 6 < n) : macH n = 8 := by
  unfold macH unl
  rw [decide_eq_true (show 0 < n by omega), decide_eq_false (show ¬ (n : Int) ≤ 6 by omega)]; rfl
theorem macK_st {m : Mac} (h : staE m.br.length m.st ≠ 0) : macK m = 2 := by
  unfold macK
  have : staE m.br.length m.st = 2 := by unfold staE unl at *; split <;> simp_all
  rw [this]; rfl
theorem macK_large {m : Mac} (h : staE m.br.length m.st = 0) (h2 : 30 < m.gs.length) : macK m = 8 := by
  unfold macK unl
  rw [h, decide_eq_false (show ¬ (m.gs.length : Int) ≤ 30 by omega)]; rfl
theorem macK_zero {m : Mac} (h : staE m.br.length m.st = 0) (h2 : m.gs.length ≤ 30) : macK m = 0 := by
  unfold macK unl
  rw [h, decide_eq_true (show (m.gs.length : Int) ≤ 30 by omega)]; rfl
/-- The first error among guards, step by step. -/
theorem grdE_con {n : Nat} {g : Grd} (h : conE n g.c ≠ 0) : grdE n g = 6 := by
  unfold grdE
  have : conE n g.c = 6 := by unfold conE unl at *; split <;> simp_all
  rw [this]; rfl
theorem grdE_sta {n : Nat} {g : Grd} (h : conE n g.c = 0) (h2 : staE n g.ci ≠ 0 ∨ staE n g.op ≠ 0) : grdE n g = 2 := by
  unfold grdE
  rw [h]
  have : (isS n g.ci && isS n g.op) = false := by
    unfold staE unl at h2
    cases h3 : isS n g.ci <;> cases h4 : isS n g.op <;> simp_all
  rw [this]; rfl
theorem grdE_no {n : Nat} {g : Grd} (h : conE n g.c = 0) (h2 : staE n g.ci = 0) (h3 : staE n g.op = 0) : grdE n g = 0 := by
  unfold staE at h2 h3
  rw [unl_eq_zero (by decide)] at h2 h3
  unfold grdE
  rw [h, h2, h3]; rfl
end Go.Proofs.Ytidboecjllaofaa

/- A region that draws its order, by a tree of schedules: reads first, forced operations, and forks where one of two comes. -/
namespace Go.Proofs.Ytidboecjllaofaa
open Go.RowKit

inductive Sch where
  | done : Sch
  | head : Nat → Sch → Sch
  | one : Nat → Sch → Sch
  | two : Nat → Sch → Nat → Sch → Sch
  | three : Nat → Sch → Nat → Sch → Nat → Sch → Sch

def Sch.depth : Sch → Nat
  | .done => 0
  | .head _ k => k.depth + 1
  | .one _ k => k.depth + 1
  | .two _ k _ l => max k.depth l.depth + 1
  | .three _ k _ l _ n => max k.depth (max l.depth n.depth) + 1

section
variable {P : Program} {l : List Oper} {md : Region.Mode} {S : World → Prop} {Q : Exit → Act → World → Prop}

def treeB (md : Region.Mode) (ops : Array Oper) : Sch → Array Bool → Bool
  | .done, listed => decide (Region.ready md ops listed = [])
  | .head h k, listed => (Region.ready md ops listed).contains h && Region.free md ops listed h && (match ops[h]? with | some o => plainOp o | none => false) && treeB md ops k (listed.setIfInBounds h true)
  | .one t k, listed => decide (Region.ready md ops listed = [t]) && decide (t < ops.size) && treeB md ops k (listed.setIfInBounds t true)
  | .two i k j m, listed => decide (Region.ready md ops listed = [i, j]) && decide (i < ops.size) && decide (j < ops.size) && treeB md ops k (listed.setIfInBounds i true) && treeB md ops m (listed.setIfInBounds j true)
  | .three i k j m t n, listed => decide (Region.ready md ops listed = [i, j, t]) && decide (i < ops.size) && decide (j < ops.size) && decide (t < ops.size) && treeB md ops k (listed.setIfInBounds i true) && treeB md ops m (listed.setIfInBounds j true) && treeB md ops n (listed.setIfInBounds t true)

def wpTree (P : Program) (l : List Oper) (S : World → Prop) (Q : Exit → Act → World → Prop) : Sch → Act → World → Prop
  | .done, a, w => Q .normal a w
  | .head h k, a, w => match l[h]? with | some o => wpQuiet P l.toArray S (fun a' => wpTree P l S Q k a' w) [o] a | none => False
  | .one t k, a, w => match l[t]? with | some o => wpList P l.toArray (tailQ S Q (wpTree P l S Q k)) [o] a w | none => False
  | .two i k j m, a, w => (match l[i]? with | some o => wpList P l.toArray (tailQ S Q (wpTree P l S Q k)) [o] a w | none => False) ∧
      (match l[j]? with | some o => wpList P l.toArray (tailQ S Q (wpTree P l S Q m)) [o] a w | none => False)
  | .three i k j m t n, a, w => (match l[i]? with | some o => wpList P l.toArray (tailQ S Q (wpTree P l S Q k)) [o] a w | none => False) ∧
      (match l[j]? with | some o => wpList P l.toArray (tailQ S Q (wpTree P l S Q m)) [o] a w | none => False) ∧
      (match l[t]? with | some o => wpList P l.toArray (tailQ S Q (wpTree P l S Q n)) [o] a w | none => False)

theorem tree_anyH (hsel : Region.noSelect l.toArray = true) : ∀ (s : Sch) (fuel : Nat) (listed : Array Bool) (a : Act) (w : World), s.depth ≤ fuel → treeB md l.toArray s listed = true → S w →
    wpTree P l S Q s a w → wpAnyH P md l.toArray (NoPanic Q) S fuel listed a w
  | .done, fuel, listed, a, w, _, hB, _, h => by
    simp only [treeB, decide_eq_true_eq] at hB
    exact wpAnyH_done (Q := NoPanic Q) hB h fuel
  | .head x k, 0, listed, a, w, hd, _, _, _ => by simp [Sch.depth] at hd
  | .one x k, 0, listed, a, w, hd, _, _, _ => by simp [Sch.depth] at hd
  | .two x k y m, 0, listed, a, w, hd, _, _, _ => by simp [Sch.depth] at hd
  | .three x k y m t n, 0, listed, a, w, hd, _, _, _ => by simp [Sch.depth] at hd
  | .head x k, fuel + 1, listed, a, w, hd, hB, hS, h => by
    simp only [treeB, Bool.and_eq_true] at hB
    simp only [Sch.depth] at hd
    have hx : x < l.length := by
      have h2 := hB.1.2
      by_cases hx : x < l.length
      · exact hx
      · rw [Array.getElem?_eq_none (by simpa using hx)] at h2; cases h2
    have ho : l.toArray[x]? = some l[x] := by simp [hx]
    have ho' : l[x]? = some l[x] := by simp [hx]
    rw [ho] at hB
    simp only [wpTree, ho'] at h
    have hst : qOp P l.toArray S x (wpQuiet P l.toArray S (fun a' => wpTree P l S Q k a' w) []) a := by unfold qOp; simp only [ho]; exact h
    obtain ⟨v, hy, hK⟩ := yieldsIn_of_qOp ho hst
    exact wpAnyH_take ho hsel hB.1.1.2 hB.1.1.1 (fun _ _ _ h => h.elim) (yieldsIf_of_in hB.1.2 hy) hS (tree_anyH hsel k fuel _ _ w (by omega) hB.2 hS hK)
  | .one t k, fuel + 1, listed, a, w, hd, hB, hS, h => by
    simp only [treeB, Bool.and_eq_true, decide_eq_true_eq] at hB
    simp only [Sch.depth] at hd
    have ht : t < l.length := by simpa using hB.1.2
    have ho : l.toArray[t]? = some l[t] := by simp [ht]
    have ho' : l[t]? = some l[t] := by simp [ht]
    simp only [wpTree, ho'] at h
    refine wpAnyH_all hB.1.1 (by simp) (fun i hi => ?_)
    have hit : i = t := by simpa using hi
    subst hit
    exact wpOp_mono (fun a' w' hh => ⟨hh.1, tree_anyH hsel k fuel _ a' w' (by omega) hB.2 hh.1 hh.2⟩) (wpOp_of_tail ho h)
  | .two x k y m, fuel + 1, listed, a, w, hd, hB, hS, h => by
    simp only [treeB, Bool.and_eq_true, decide_eq_true_eq] at hB
    simp only [Sch.depth] at hd
    obtain ⟨⟨⟨⟨hr, hx⟩, hy⟩, hk⟩, hm⟩ := hB
    have hx' : x < l.length := by simpa using hx
    have hy' : y < l.length := by simpa using hy
    have ho : l.toArray[x]? = some l[x] := by simp [hx']
    have ho' : l[x]? = some l[x] := by simp [hx']
    have hq : l.toArray[y]? = some l[y] := by simp [hy']
    have hq' : l[y]? = some l[y] := by simp [hy']
    simp only [wpTree, ho', hq'] at h
    refine wpAnyH_all hr (by simp) (fun i hi => ?_)
    rcases (by simpa using hi : i = x ∨ i = y) with rfl | rfl
    · exact wpOp_mono (fun a' w' hh => ⟨hh.1, tree_anyH hsel k fuel _ a' w' (by omega) hk hh.1 hh.2⟩) (wpOp_of_tail ho h.1)
    · exact wpOp_mono (fun a' w' hh => ⟨hh.1, tree_anyH hsel m fuel _ a' w' (by omega) hm hh.1 hh.2⟩) (wpOp_of_tail hq h.2)
  | .three x k y m z n, fuel + 1, listed, a, w, hd, hB, hS, h => by
    simp only [treeB, Bool.and_eq_true, decide_eq_true_eq] at hB
    simp only [Sch.depth] at hd
    obtain ⟨⟨⟨⟨⟨⟨hr, hx⟩, hy⟩, hz⟩, hk⟩, hm⟩, hn⟩ := hB
    have hx' : x < l.length := by simpa using hx
    have hy' : y < l.length := by simpa using hy
    have hz' : z < l.length := by simpa using hz
    have ho : l.toArray[x]? = some l[x] := by simp [hx']
    have ho' : l[x]? = some l[x] := by simp [hx']
    have hq : l.toArray[y]? = some l[y] := by simp [hy']
    have hq' : l[y]? = some l[y] := by simp [hy']
    have hp : l.toArray[z]? = some l[z] := by simp [hz']
    have hp' : l[z]? = some l[z] := by simp [hz']
    simp only [wpTree, ho', hq', hp'] at h
    refine wpAnyH_all hr (by simp) (fun i hi => ?_)
    rcases (by simpa using hi : i = x ∨ i = y ∨ i = z) with rfl | rfl | rfl
    · exact wpOp_mono (fun a' w' hh => ⟨hh.1, tree_anyH hsel k fuel _ a' w' (by omega) hk hh.1 hh.2⟩) (wpOp_of_tail ho h.1)
    · exact wpOp_mono (fun a' w' hh => ⟨hh.1, tree_anyH hsel m fuel _ a' w' (by omega) hm hh.1 hh.2⟩) (wpOp_of_tail hq h.2.1)
    · exact wpOp_mono (fun a' w' hh => ⟨hh.1, tree_anyH hsel n fuel _ a' w' (by omega) hn hh.1 hh.2⟩) (wpOp_of_tail hp h.2.2)

def treeOk (ops : Array Oper) (s : Sch) : Bool :=
  Region.noSelect ops && decide (s.depth ≤ ops.size) && treeB .any ops s (Array.replicate ops.size false)

theorem wp_region_tree {id : Nat} {a : Act} {w : World} (s : Sch) (S : World → Prop) (hm : P.follows .mixedOrders = true) (hB : treeOk l.toArray s = true) (hS : S w.drew)
    (h : wpTree P l S Q s a w.drew) : (Code.region id l.toArray true).wp P Q a w := by
  simp only [treeOk, Bool.and_eq_true, decide_eq_true_eq] at hB
  refine wp_region_noPanic (wp_region_held (S := S) hm ?_)
  exact tree_anyH hB.1.1 s _ _ a _ hB.1.2 hB.2 hS h

theorem wp_region_laterT {B : Nat} {id : Nat} {a : Act} {w : World} (s : Sch) (hm : P.follows .mixedOrders = true) (hB : treeOk l.toArray s = true)
    (h : wpTree P l (fun w' => ∃ u : LaterB B w, w' = u.world) Q s a w.drew) : (Code.region id l.toArray true).wp P Q a w :=
  wp_region_tree s _ hm hB ⟨⟨_, (Below.refl B w).drew⟩, rfl⟩ h
theorem tree_head {h : Nat} {o : Oper} {k : Sch} {a : Act} {w : World} (ho : l[h]? = some o) (hh : wpQuiet P l.toArray S (fun a' => wpTree P l S Q k a' w) [o] a) : wpTree P l S Q (.head h k) a w := by
  simp only [wpTree, ho]; exact hh
theorem tree_one {t : Nat} {o : Oper} {k : Sch} {a : Act} {w : World} (ho : l[t]? = some o) (hh : wpList P l.toArray (tailQ S Q (wpTree P l S Q k)) [o] a w) : wpTree P l S Q (.one t k) a w := by
  simp only [wpTree, ho]; exact hh
theorem tree_two {i j : Nat} {o o2 : Oper} {k m : Sch} {a : Act} {w : World} (ho : l[i]? = some o) (hq : l[j]? = some o2) (h1 : wpList P l.toArray (tailQ S Q (wpTree P l S Q k)) [o] a w) (h2 : wpList P l.toArray (tailQ S Q (wpTree P l S Q m)) [o2] a w) : wpTree P l S Q (.two i k j m) a w := by
  simp only [wpTree, ho, hq]; exact ⟨h1, h2⟩
theorem tree_three {i j t : Nat} {o o2 o3 : Oper} {k m n : Sch} {a : Act} {w : World} (ho : l[i]? = some o) (hq : l[j]? = some o2) (hp : l[t]? = some o3) (h1 : wpList P l.toArray (tailQ S Q (wpTree P l S Q k)) [o] a w) (h2 : wpList P l.toArray (tailQ S Q (wpTree P l S Q m)) [o2] a w) (h3 : wpList P l.toArray (tailQ S Q (wpTree P l S Q n)) [o3] a w) : wpTree P l S Q (.three i k j m t n) a w := by
  simp only [wpTree, ho, hq, hp]; exact ⟨h1, h2, h3⟩
theorem tree_done {a : Act} {w : World} (h : Q .normal a w) : wpTree P l S Q .done a w := h
end
end Go.Proofs.Ytidboecjllaofaa

/- Machines: copies, MachineErr, bothErr, few (the reference and the statements). -/
namespace Go.Proofs.Ytidboecjllaofaa
open Go.RowKit
set_option linter.unusedVariables false
set_option linter.unusedSimpArgs false

theorem infoBr : (Try.prog.info? 79).map (fun i => (i.zero, i.size, i.bytes)) = some (some (.agg #[.int .i64 0, .int .i64 0]), 2, 16) := by kernel_rfl
theorem infoGr : (Try.prog.info? 56).map (fun i => (i.zero, i.size, i.bytes)) = some (some (.agg #[.int .i64 0, .bool false, .int .i64 0, .int .i64 0]), 4, 32) := by kernel_rfl
/-- A row of cells that a call has made grows: rows of other types stay. -/
theorem own_otherT {w w' : World} {base n sz : Nat} {e : TypeId} {v : Value} {xs : List Value} (h : w.ownsRow base e sz v n xs) (hg : w.grownBy w' v.ownBlock) {t : TypeId} (ht : e ≠ t) : ∀ (B : Nat) cur z, w.heap[B]? = some (.cells cur t z) → w'.heap[B]? = some (.cells cur t z) := fun B cur z hB => by
  rw [hg.block B (Array.getElem?_eq_some_iff.1 hB).1 (fun e => ?_)]
  · exact hB
  · rcases h.2 with ⟨rfl, _⟩ | ⟨g, cap, cur', rfl, _, hgg, _⟩
    · simp [Value.ownBlock] at e
    · simp only [Value.ownBlock, Option.some.injEq] at e
      subst e
      rw [hgg] at hB
      simp only [Option.some.injEq, Obj.cells.injEq] at hB
      exact absurd hB.2.1 ht
theorem owns_typed {w w' : World} {base n sz : Nat} {t : TypeId} {v : Value} {xs : List Value} (h : w.ownsRow base t sz v n xs) (hk : ∀ (B : Nat) cur z, w.heap[B]? = some (.cells cur t z) → w'.heap[B]? = some (.cells cur t z)) : w'.ownsRow base t sz v n xs :=
  ⟨h.1, h.2.imp id (fun ⟨g, cap, cur, hv, hb, hg, r⟩ => ⟨g, cap, cur, hv, hb, hk _ _ _ hg, r⟩)⟩
end Go.Proofs.Ytidboecjllaofaa
