import Derived.Test.YtdjinmieogpgcaaGreatMTRat
/- A row of quotients of one's own, filled entry by entry, while other cells of one's own change. -/
namespace Go.Proofs.YtdjinmieogpgcaaGreat
open Go.RowKit
set_option linter.unusedVariables false
def EntA (p : Nat → Prop) (w : World) (cs : Array Value) (j : Nat) (q : Rat) : Prop := ∃ (s : Int) (a : Option Addr) (n c : Nat) (t : Int) (b : Option Addr) (m d : Nat),
 cs[j * 4]? = some (.int .i64 s) ∧ cs[j * 4 + 1]? = some (.slice a n c) ∧ cs[j * 4 + 2]? = some (.int .i64 t) ∧ cs[j * 4 + 3]? = some (.slice b m d)
 ∧ RatioR p w (.agg #[.int .i64 s, .slice a n c, .int .i64 t, .slice b m d]) q
theorem EntA.kept {p p' : Nat → Prop} {w w' : World} {cs : Array Value} {j : Nat} {q : Rat} (h : EntA p w cs j q) (hs : w.heap.size ≤ w'.heap.size) (hb : ∀ b, p b → w'.heap[b]? = w.heap[b]?) (hp : ∀ b, p b → p' b) : EntA p' w' cs j q := by
 obtain ⟨s, a, n, c, t, a2, n2, c2, h0, h1, h2, h3, h4⟩ := h
 exact ⟨s, a, n, c, t, a2, n2, c2, h0, h1, h2, h3, (h4.kept hs hb).mono hp⟩
theorem EntA.below {p : Nat → Prop} {w w' : World} {cs : Array Value} {j : Nat} {q : Rat} (h : EntA p w cs j q) (hb : Below w.heap.size w w') : EntA p w' cs j q := by
 obtain ⟨s, a, n, c, t, a2, n2, c2, h0, h1, h2, h3, h4⟩ := h
 exact ⟨s, a, n, c, t, a2, n2, c2, h0, h1, h2, h3, h4.below hb⟩
theorem EntA.mono {p p' : Nat → Prop} {w : World} {cs : Array Value} {j : Nat} {q : Rat} (h : EntA p w cs j q) (hp : ∀ b, p b → p' b) : EntA p' w cs j q := by
 obtain ⟨s, a, n, c, t, a2, n2, c2, h0, h1, h2, h3, h4⟩ := h
 exact ⟨s, a, n, c, t, a2, n2, c2, h0, h1, h2, h3, h4.mono hp⟩
def put4c (cs : Array Value) (j : Nat) (a b c d : Value) : Array Value := (((cs.setIfInBounds (j * 4) a).setIfInBounds (j * 4 + 1) b).setIfInBounds (j * 4 + 2) c).setIfInBounds (j * 4 + 3) d
theorem put4c_size (cs : Array Value) (j : Nat) (a b c d : Value) : (put4c cs j a b c d).size = cs.size := by simp [put4c]
theorem put4c_out (cs : Array Value) (j i : Nat) (a b c d : Value) (h : i < j * 4 ∨ j * 4 + 4 ≤ i) : (put4c cs j a b c d)[i]? = cs[i]? := by
 unfold put4c
 rw [Array.getElem?_setIfInBounds_ne (by omega), Array.getElem?_setIfInBounds_ne (by omega), Array.getElem?_setIfInBounds_ne (by omega), Array.getElem?_setIfInBounds_ne (by omega)]
theorem put4c_in (cs : Array Value) (j : Nat) (a b c d : Value) (h : j * 4 + 4 ≤ cs.size) : (put4c cs j a b c d)[j * 4]? = some a ∧ (put4c cs j a b c d)[j * 4 + 1]? = some b ∧ (put4c cs j a b c d)[j * 4 + 2]? = some c ∧ (put4c cs j a b c d)[j * 4 + 3]? = some d := by
 unfold put4c
 refine ⟨?_, ?_, ?_, ?_⟩
 ·rw [Array.getElem?_setIfInBounds_ne (by omega), Array.getElem?_setIfInBounds_ne (by omega), Array.getElem?_setIfInBounds_ne (by omega), Array.getElem?_setIfInBounds_self_of_lt (by omega)]
 ·rw [Array.getElem?_setIfInBounds_ne (by omega), Array.getElem?_setIfInBounds_ne (by omega), Array.getElem?_setIfInBounds_self_of_lt (by simp; omega)]
 ·rw [Array.getElem?_setIfInBounds_ne (by omega), Array.getElem?_setIfInBounds_self_of_lt (by simp; omega)]
 ·rw [Array.getElem?_setIfInBounds_self_of_lt (by simp; omega)]
abbrev set4j (w : World) (g j : Nat) (v0 v1 v2 v3 : Value) : World := (((w.setCell ⟨g, j * 4, none⟩ v0).setCell ⟨g, j * 4 + 1, none⟩ v1).setCell ⟨g, j * 4 + 2, none⟩ v2).setCell ⟨g, j * 4 + 3, none⟩ v3
theorem set4j_size (w : World) (g j : Nat) (v0 v1 v2 v3 : Value) : (set4j w g j v0 v1 v2 v3).heap.size = w.heap.size := by simp [set4j]
theorem set4j_other (w : World) (g j b : Nat) (v0 v1 v2 v3 : Value) (h : b ≠ g) : (set4j w g j v0 v1 v2 v3).heap[b]? = w.heap[b]? := by
 unfold set4j
 rw [Go.Deep.blk_setCell_other _ _ _ _ (by simpa using h), Go.Deep.blk_setCell_other _ _ _ _ (by simpa using h), Go.Deep.blk_setCell_other _ _ _ _ (by simpa using h), Go.Deep.blk_setCell_other _ _ _ _ (by simpa using h)]
theorem set4j_same {w : World} {g t : Nat} {cs : Array Value} (h : w.heap[g]? = some (.cells cs t)) (j : Nat) (v0 v1 v2 v3 : Value) : (set4j w g j v0 v1 v2 v3).heap[g]? = some (.cells (put4c cs j v0 v1 v2 v3) t) :=
 blk_set (blk_set (blk_set (blk_set h (j * 4) v0) (j * 4 + 1) v1) (j * 4 + 2) v2) (j * 4 + 3) v3
theorem set4j_below {w0 w : World} {B g : Nat} (h : Below B w0 w) (hX : B ≤ g) (j : Nat) (v0 v1 v2 v3 : Value) : Below B w0 (set4j w g j v0 v1 v2 v3) := (((h.setCell hX _).setCell hX _).setCell hX _).setCell hX _
theorem RA.putj {A : Nat → Prop} {w : World} {v : Value} {q : Rat} (h : RA A w v q) {g : Nat} (hX : A g) (j : Nat) (v0 v1 v2 v3 : Value) : RA A (set4j w g j v0 v1 v2 v3) v q :=
 RA.kept h (by rw [set4j_size]; exact Nat.le_refl _) (fun b hb _ => set4j_other w g j b v0 v1 v2 v3 (fun e => hb (e ▸ hX)))
structure RowA (A : Nat → Prop) (w : World) (g N k : Nat) (q : Nat → Rat) (cs : Array Value) : Prop where
 blk : w.heap[g]? = some (.cells cs 174)
 len : cs.size = N * 4
 own : A g
 ent : ∀ j, j < k → EntA (fun b => ¬ A b ∧ b < w.heap.size) w cs j (q j)
theorem RowA.lt {A : Nat → Prop} {w : World} {g N k : Nat} {q : Nat → Rat} {cs : Array Value} (h : RowA A w g N k q cs) : g < w.heap.size := blk_lt h.blk
theorem RowA.below {A : Nat → Prop} {w w' : World} {g N k : Nat} {q : Nat → Rat} {cs : Array Value} (h : RowA A w g N k q cs) (hb : Below w.heap.size w w') : RowA A w' g N k q cs :=
 ⟨(hb.block g h.lt).trans h.blk, h.len, h.own, fun j hj => ((h.ent j hj).below hb).mono (fun b hx => ⟨hx.1, Nat.lt_of_lt_of_le hx.2 hb.size⟩)⟩
theorem RowA.put {A : Nat → Prop} {w : World} {g N k : Nat} {q : Nat → Rat} {cs : Array Value} (h : RowA A w g N k q cs) {X : Nat} (hX : A X) (hg : g ≠ X) (v0 v1 v2 v3 : Value) : RowA A (set4 w X v0 v1 v2 v3) g N k q cs :=
 ⟨(set4_other w X g v0 v1 v2 v3 hg).trans h.blk, h.len, h.own, fun j hj => (h.ent j hj).kept (by rw [set4_size]; exact Nat.le_refl _) (fun b hb => set4_other w X b v0 v1 v2 v3 (fun e => hb.1 (e ▸ hX))) (fun b hb => ⟨hb.1, by rw [set4_size]; exact hb.2⟩)⟩
theorem RowA.cells {A : Nat → Prop} {w : World} {g N k : Nat} {q : Nat → Rat} {cs : Array Value} (h : RowA A w g N k q cs) {j : Nat} (hj : j < N) : ∃ u0 u1 u2 u3, w.cell? ⟨g, j * 4, none⟩ = some u0 ∧ w.cell? ⟨g, j * 4 + 1, none⟩ = some u1 ∧ w.cell? ⟨g, j * 4 + 2, none⟩ = some u2 ∧ w.cell? ⟨g, j * 4 + 3, none⟩ = some u3
    ∧ w.frozen? ⟨g, j * 4, none⟩ = false ∧ w.frozen? ⟨g, j * 4 + 1, none⟩ = false ∧ w.frozen? ⟨g, j * 4 + 2, none⟩ = false ∧ w.frozen? ⟨g, j * 4 + 3, none⟩ = false := by
 have hl := h.len
 refine ⟨cs[j * 4]'(by omega), cs[j * 4 + 1]'(by omega), cs[j * 4 + 2]'(by omega), cs[j * 4 + 3]'(by omega), blk_cell h.blk (Array.getElem?_eq_getElem _), blk_cell h.blk (Array.getElem?_eq_getElem _), blk_cell h.blk (Array.getElem?_eq_getElem _), blk_cell h.blk (Array.getElem?_eq_getElem _), blk_fz h.blk _, blk_fz h.blk _, blk_fz h.blk _, blk_fz h.blk _⟩
theorem RowA.set {A : Nat → Prop} {w : World} {g N k : Nat} {q : Nat → Rat} {cs : Array Value} (h : RowA A w g N k q cs) {j : Nat} (hj : j < N) {x : Rat} {s t : Int} {a a2 : Option Addr} {n c n2 c2 : Nat}
    (hx : RA A w (.agg #[.int .i64 s, .slice a n c, .int .i64 t, .slice a2 n2 c2]) x) (q' : Nat → Rat) (k' : Nat) (hq : q' j = x) (hq' : ∀ i, i < k' → i ≠ j → i < k ∧ q' i = q i) :
    RowA A (set4j w g j (.int .i64 s) (.slice a n c) (.int .i64 t) (.slice a2 n2 c2)) g N k' q' (put4c cs j (.int .i64 s) (.slice a n c) (.int .i64 t) (.slice a2 n2 c2)) := by
 have hl := h.len
 have hsz := set4j_size w g j (.int .i64 s) (.slice a n c) (.int .i64 t) (.slice a2 n2 c2)
 refine ⟨set4j_same h.blk j _ _ _ _, by rw [put4c_size]; exact hl, h.own, fun i hi => ?_⟩
 by_cases hij : i = j
 ·subst hij
  obtain ⟨e0, e1, e2, e3⟩ := put4c_in cs i (.int .i64 s) (.slice a n c) (.int .i64 t) (.slice a2 n2 c2) (by omega)
  rw [hq]
  exact ⟨s, a, n, c, t, a2, n2, c2, e0, e1, e2, e3, hx.putj h.own i _ _ _ _⟩
 ·obtain ⟨hik, hqi⟩ := hq' i hi hij
  rw [hqi]
  obtain ⟨s', a', n', c', t', a2', n2', c2', e0, e1, e2, e3, e4⟩ := h.ent i hik
  exact ⟨s', a', n', c', t', a2', n2', c2', by rw [put4c_out _ _ _ _ _ _ _ (by omega)]; exact e0, by rw [put4c_out _ _ _ _ _ _ _ (by omega)]; exact e1, by rw [put4c_out _ _ _ _ _ _ _ (by omega)]; exact e2, by rw [put4c_out _ _ _ _ _ _ _ (by omega)]; exact e3, RA.putj (show RA A w _ _ from e4) h.own j _ _ _ _⟩
theorem RowA.congr {A : Nat → Prop} {w : World} {g N k : Nat} {q q' : Nat → Rat} {cs : Array Value} (h : RowA A w g N k q cs) (hq : ∀ j, j < k → q' j = q j) : RowA A w g N k q' cs :=
 ⟨h.blk, h.len, h.own, fun j hj => by rw [hq j hj]; exact h.ent j hj⟩
theorem RowA.at {A : Nat → Prop} {w : World} {g N k : Nat} {q : Nat → Rat} {cs : Array Value} (h : RowA A w g N k q cs) {j : Nat} (hj : j < k) : ∃ (s : Int) (a : Option Addr) (n c : Nat) (t : Int) (b : Option Addr) (m d : Nat),
    w.cell? ⟨g, j * 4, none⟩ = some (.int .i64 s) ∧ w.cell? ⟨g, j * 4 + 1, none⟩ = some (.slice a n c) ∧ w.cell? ⟨g, j * 4 + 2, none⟩ = some (.int .i64 t) ∧ w.cell? ⟨g, j * 4 + 3, none⟩ = some (.slice b m d)
    ∧ RA A w (.agg #[.int .i64 s, .slice a n c, .int .i64 t, .slice b m d]) (q j) := by
 obtain ⟨s', a', n', c', t', a2', n2', c2', e0, e1, e2, e3, e4⟩ := h.ent j hj
 exact ⟨s', a', n', c', t', a2', n2', c2', blk_cell h.blk e0, blk_cell h.blk e1, blk_cell h.blk e2, blk_cell h.blk e3, e4⟩
theorem makeRatiosA (w : World) (n : Nat) (hn : n ≤ 100000) :
    (Instr.makeSlice 169 (.int .i64 n) (.int .i64 n)).run Tryz.prog w = .ok (.slice (some ⟨w.heap.size, 0, none⟩) n n) (w.alloc (.cells (madeCells #[.int .i64 0, .slice none 0 0, .int .i64 0, .slice none 0 0] (n * 4)) 174)) := by
 have hi0 : (Tryz.prog.info? 174).map (fun i => (i.zero, i.size, i.bytes)) = some (some (.agg #[.int .i64 0, .slice none 0 0, .int .i64 0, .slice none 0 0]), 4, 64) := by kernel_rfl
 obtain ⟨i, hi1, hi2, hi3, hi4⟩ := info_parts hi0
 have hr := run_make (P := Tryz.prog) w 169 174 i _ Tryz.underlying169 hi1 hi2 .i64 .i64 n n (by omega) (Int.le_refl _) (by rw [hi4]; omega) (by omega)
 simp only [Int.toNat_natCast, hi3] at hr
 exact hr
/- As SchedM, where the last operation comes behind all others and may store into what is read. -/
section
variable {P : Program} {ops : Array Oper} {md : Region.Mode} {S : World → Prop} {Q : Exit → Act → World → Prop} {z : Nat}
def wpMixZ (P : Program) (ops : Array Oper) (S : World → Prop) (Q : Exit → Act → World → Prop) : List (Bool × Oper) → Act → World → Prop
 | [], a, w => Q .normal a w
 | [(false, o)], a, w => wpList P ops (tailQ (fun _ => True) Q (Q .normal)) [o] a w
 | (true, o) :: r, a, w => wpQuiet P ops S (fun a' => wpMixZ P ops S Q r a' w) [o] a
 | (false, o) :: r, a, w => wpList P ops (tailQ S Q (wpMixZ P ops S Q r)) [o] a w
theorem mixZ_any (hsel : Region.noSelect ops = true) : ∀ (l : List (Bool × Nat)) (listed : Array Bool) (a : Act) (w : World), mixB md ops l listed = true → (∀ x ∈ l, x.2 < ops.size) → (∀ x ∈ l, x.1 = true → waitsB md ops z x.2 = true) → (l = [] ∨ l.getLast? = some (false, z)) → S w →
    wpMixZ P ops S Q (opsOf ops l) a w → wpAnyZ P md ops (NoPanic Q) S z l.length listed a w
 | [], listed, a, w, hB, _, _, _, _, h => by
  simp only [mixB, decide_eq_true_eq] at hB
  exact ⟨hB, h⟩
 | (true, x) :: r, listed, a, w, hB, hlt, hw, hl, hS, h => by
  simp only [mixB, Bool.and_eq_true] at hB
  have hx := hlt (true, x) (by simp)
  have ho : ops[x]? = some ops[x] := by simp [hx]
  rw [ho] at hB
  have h' : wpQuiet P ops S (fun a' => wpMixZ P ops S Q (opsOf ops r) a' w) [ops[x]] a := by
   have : opsOf ops ((true, x) :: r) = (true, ops[x]) :: opsOf ops r := by simp [opsOf, ho]
   rw [this] at h
   cases hq : opsOf ops r with
   | nil => rw [hq] at h; exact h
   | cons y ys => rw [hq] at h; exact h
  have hst : qOp P ops S x (wpQuiet P ops S (fun a' => wpMixZ P ops S Q (opsOf ops r) a' w) []) a := by unfold qOp; simp only [ho]; exact h'
  obtain ⟨v, hy, hK⟩ := yieldsIn_of_qOp ho hst
  have hl' : r = [] ∨ r.getLast? = some (false, z) := by
   rcases hl with h | h
   ·cases h
   ·cases r with
    | nil => simp at h
    | cons y ys => exact .inr (by simpa using h)
  exact anyZ_first ho (Region.noSelect_spec hsel) (fun _ _ _ h => h.elim) (waitsB_spec (hw (true, x) (by simp) rfl)) _ _ _ _ (Region.free_spec ho hB.1.1.2) (by simpa using hB.1.1.1) (yieldsIf_of_in hB.1.2 hy) hS
   (mixZ_any hsel r _ _ w hB.2 (fun y hy => hlt y (by simp [hy])) (fun y hy => hw y (by simp [hy])) hl' hS hK)
 | [(false, t)], listed, a, w, hB, hlt, hw, hl, hS, h => by
  simp only [mixB, Bool.and_eq_true, decide_eq_true_eq] at hB
  have ht := hlt (false, t) (by simp)
  have ho : ops[t]? = some ops[t] := by simp [ht]
  have hz : t = z := by simpa using hl
  have h' : wpList P ops (tailQ (fun _ => True) Q (Q .normal)) [ops[t]] a w := by
   have : opsOf ops [(false, t)] = [(false, ops[t])] := by simp [opsOf, ho]
   rw [this] at h; exact h
  refine ⟨fun h0 => absurd (hB.1 ▸ h0) (by simp), fun i hi => ?_⟩
  have hit : i = t := by rw [hB.1] at hi; simpa using hi
  subst hit
  refine wpOp_mono (fun a' w' hh => ⟨.inl hz, ?_⟩) (wpOp_of_tail (S := fun _ => True) (K := Q .normal) ho h')
  exact ⟨hB.2, hh.2⟩
 | (false, t) :: y :: r, listed, a, w, hB, hlt, hw, hl, hS, h => by
  rw [show mixB md ops ((false, t) :: y :: r) listed = (decide (Region.ready md ops listed = [t]) && mixB md ops (y :: r) (listed.setIfInBounds t true)) from rfl, Bool.and_eq_true, decide_eq_true_eq] at hB
  have ht := hlt (false, t) (by simp)
  have hy := hlt y (by simp)
  have ho : ops[t]? = some ops[t] := by simp [ht]
  have hoy : ops[y.2]? = some ops[y.2] := by simp [hy]
  have h' : wpList P ops (tailQ S Q (wpMixZ P ops S Q (opsOf ops (y :: r)))) [ops[t]] a w := by
   have e1 : opsOf ops ((false, t) :: y :: r) = (false, ops[t]) :: opsOf ops (y :: r) := by simp [opsOf, ho]
   have e2 : opsOf ops (y :: r) = (y.1, ops[y.2]) :: opsOf ops r := by simp [opsOf, hoy]
   rw [e1, e2] at h
   rw [e2]
   exact h
  refine ⟨fun h0 => absurd (hB.1 ▸ h0) (by simp), fun i hi => ?_⟩
  have hit : i = t := by rw [hB.1] at hi; simpa using hi
  subst hit
  refine wpOp_mono (fun a' w' hh => ⟨.inr hh.1, ?_⟩) (wpOp_of_tail ho h')
  exact mixZ_any hsel (y :: r) _ a' w' hB.2 (fun x hx => hlt x (by simp [hx])) (fun x hx => hw x (by simp [hx])) (hl.elim (fun h => by cases h) (fun h => .inr (by simpa using h))) hh.1 hh.2
def mixOkZ (ops : Array Oper) (l : List (Bool × Nat)) (z : Nat) : Bool :=
 mixOk ops l && decide (l.getLast? = some (false, z)) && l.all (fun x => !x.1 || waitsB .any ops z x.2)
theorem wp_region_mixZ {B : Nat} {id : Nat} {a : Act} {w : World} {l : List Oper} (sc : List (Bool × Nat)) (z : Nat) (hm : P.follows .mixedOrders = true) (hB : mixOkZ l.toArray sc z = true)
    (h : wpMixZ P l.toArray (fun w' => ∃ u : LaterB B w, w' = u.world) Q (opsOf l.toArray sc) a w.drew) : (Code.region id l.toArray true).wp P Q a w := by
 simp only [mixOkZ, mixOk, Bool.and_eq_true, decide_eq_true_eq, List.all_eq_true] at hB
 obtain ⟨⟨⟨⟨⟨h1, h2⟩, h3⟩, h5⟩, h6⟩, h7⟩ := hB
 refine wp_region_noPanic (wp_region_any hm ?_)
 rw [← h2] at h5 ⊢
 refine any_of_Z (S := fun w' => ∃ u : LaterB B w, w' = u.world) (z := z) _ _ _ _ ?_
 exact mixZ_any h1 sc _ a _ h5 (fun x hx => h3 x hx) (fun x hx hb => by simpa [hb] using h7 x hx) (.inr h6) ⟨⟨_, (Below.refl B w).drew⟩, rfl⟩ h
theorem mixz_head {o o2 : Oper} {b : Bool} {r : List (Bool × Oper)} {a : Act} {w : World} (h : wpQuiet P ops S (fun a' => wpMixZ P ops S Q ((b, o2) :: r) a' w) [o] a) : wpMixZ P ops S Q ((true, o) :: (b, o2) :: r) a w := h
theorem mixz_tail {o o2 : Oper} {b : Bool} {r : List (Bool × Oper)} {a : Act} {w : World} (h : wpList P ops (tailQ S Q (wpMixZ P ops S Q ((b, o2) :: r))) [o] a w) : wpMixZ P ops S Q ((false, o) :: (b, o2) :: r) a w := h
theorem mixz_last {o : Oper} {a : Act} {w : World} (h : wpList P ops (tailQ (fun _ => True) Q (Q .normal)) [o] a w) : wpMixZ P ops S Q [(false, o)] a w := h
end
end Go.Proofs.YtdjinmieogpgcaaGreat
