import Derived.Test.YtbjgklifmillgaaGreatMLaw
import Derived.Test.YtbjgklifmillgaaGreatMSol
/- A row of ratios that is filled entry by entry, and rows that are handed on to Solve. -/
namespace Go.Proofs.YtbjgklifmillgaaGreat
open Go.RowKit
set_option linter.unusedVariables false

/-- Four cells of a list set. -/
def set4l (ys : List Value) (j : Nat) (a b c d : Value) : List Value := (((ys.set (4 * j) a).set (4 * j + 1) b).set (4 * j + 2) c).set (4 * j + 3) d
theorem set4l_len (ys : List Value) (j : Nat) (a b c d : Value) : (set4l ys j a b c d).length = ys.length := by simp [set4l]
theorem set4l_out (ys : List Value) (j i : Nat) (a b c d : Value) (h : i < 4 * j ∨ 4 * j + 4 ≤ i) : (set4l ys j a b c d)[i]? = ys[i]? := by
  unfold set4l
  rw [List.getElem?_set_ne (by omega), List.getElem?_set_ne (by omega), List.getElem?_set_ne (by omega), List.getElem?_set_ne (by omega)]
theorem set4l_in (ys : List Value) (j : Nat) (a b c d : Value) (h : 4 * j + 4 ≤ ys.length) : (set4l ys j a b c d)[4 * j]? = some a ∧ (set4l ys j a b c d)[4 * j + 1]? = some b ∧ (set4l ys j a b c d)[4 * j + 2]? = some c ∧ (set4l ys j a b c d)[4 * j + 3]? = some d := by
  unfold set4l
  refine ⟨?_, ?_, ?_, ?_⟩
  · rw [List.getElem?_set_ne (by omega), List.getElem?_set_ne (by omega), List.getElem?_set_ne (by omega), List.getElem?_set_self (by omega)]
  · rw [List.getElem?_set_ne (by omega), List.getElem?_set_ne (by omega), List.getElem?_set_self (by simp; omega)]
  · rw [List.getElem?_set_ne (by omega), List.getElem?_set_self (by simp; omega)]
  · rw [List.getElem?_set_self (by simp; omega)]
theorem set4l_one (ys : List Value) (j : Nat) (a b c d : Value) (h : ∀ u ∈ ys, u.oneCell' = true) (ha : a.oneCell' = true) (hb : b.oneCell' = true) (hc : c.oneCell' = true) (hd : d.oneCell' = true) : ∀ u ∈ set4l ys j a b c d, u.oneCell' = true := by
  intro u hu
  unfold set4l at hu
  rcases List.mem_or_eq_of_mem_set hu with hu | rfl
  · rcases List.mem_or_eq_of_mem_set hu with hu | rfl
    · rcases List.mem_or_eq_of_mem_set hu with hu | rfl
      · rcases List.mem_or_eq_of_mem_set hu with hu | rfl
        · exact h u hu
        · exact ha
      · exact hb
    · exact hc
  · exact hd
/-- A row of N ratios in the block g, of which the first k are filled. -/
structure RowQ (lo : Nat) (w : World) (g N k : Nat) (q : Nat → Rat) (ys : List Value) : Prop where
  own : w.ownsRow lo 101 4 (.slice (some ⟨g, 0, none⟩) N N) N ys
  one : ∀ u ∈ ys, u.oneCell' = true
  ent : ∀ j, j < k → EntL (fun b => g < b ∧ b < w.heap.size) w ys j (q j)
theorem RowQ.len {lo : Nat} {w : World} {g N k : Nat} {q : Nat → Rat} {ys : List Value} (h : RowQ lo w g N k q ys) : ys.length = 4 * N := by have := h.own.1; omega
theorem RowQ.lt {lo : Nat} {w : World} {g N k : Nat} {q : Nat → Rat} {ys : List Value} (h : RowQ lo w g N k q ys) : lo ≤ g ∧ g < w.heap.size := h.own.lt g rfl
theorem RowQ.below {lo : Nat} {w w' : World} {g N k : Nat} {q : Nat → Rat} {ys : List Value} (h : RowQ lo w g N k q ys) (hb : Below w.heap.size w w') : RowQ lo w' g N k q ys :=
  ⟨owns_below h.own hb (fun x hx => (h.own.lt x hx).2), h.one, fun j hj => ((h.ent j hj).below hb).mono (fun b hx => ⟨hx.1, Nat.lt_of_lt_of_le hx.2 hb.size⟩)⟩
theorem RowQ.cells {lo : Nat} {w : World} {g N k : Nat} {q : Nat → Rat} {ys : List Value} (h : RowQ lo w g N k q ys) {j : Nat} (hj : j < N) : ∃ u0 u1 u2 u3, w.cell? ⟨g, j * 4, none⟩ = some u0 ∧ w.cell? ⟨g, j * 4 + 1, none⟩ = some u1 ∧ w.cell? ⟨g, j * 4 + 2, none⟩ = some u2 ∧ w.cell? ⟨g, j * 4 + 3, none⟩ = some u3
    ∧ w.frozen? ⟨g, j * 4, none⟩ = false ∧ w.frozen? ⟨g, j * 4 + 1, none⟩ = false ∧ w.frozen? ⟨g, j * 4 + 2, none⟩ = false ∧ w.frozen? ⟨g, j * 4 + 3, none⟩ = false := by
  have hl := h.len
  refine ⟨ys[j * 4]'(by omega), ys[j * 4 + 1]'(by omega), ys[j * 4 + 2]'(by omega), ys[j * 4 + 3]'(by omega), ?_, ?_, ?_, ?_, h.own.frozenAt _, h.own.frozenAt _, h.own.frozenAt _, h.own.frozenAt _⟩ <;> (rw [h.own.cellAt _ (by omega)]; simp)
/-- An entry stored. -/
theorem RowQ.set {lo : Nat} {w : World} {g N k : Nat} {q : Nat → Rat} {ys : List Value} (h : RowQ lo w g N k q ys) {j : Nat} (hj : j < N) {x : Rat} {s t : Int} {a a2 : Option Addr} {n c n2 c2 : Nat}
    (hx : RatioR (fun b => g < b ∧ b < w.heap.size) w (.agg #[.int .i64 s, .slice a n c, .int .i64 t, .slice a2 n2 c2]) x) (q' : Nat → Rat) (k' : Nat) (hq : q' j = x) (hq' : ∀ i, i < k' → i ≠ j → i < k ∧ q' i = q i) :
    RowQ lo ((((w.setCell ⟨g, j * 4, none⟩ (.int .i64 s)).setCell ⟨g, j * 4 + 1, none⟩ (.slice a n c)).setCell ⟨g, j * 4 + 2, none⟩ (.int .i64 t)).setCell ⟨g, j * 4 + 3, none⟩ (.slice a2 n2 c2)) g N k' q'
      (set4l ys j (.int .i64 s) (.slice a n c) (.int .i64 t) (.slice a2 n2 c2)) := by
  have hl := h.len
  have h1 := (World.ownsRow.stored h.own (4 * j) (.int .i64 s)).1
  have h2 := (World.ownsRow.stored h1 (4 * j + 1) (.slice a n c)).1
  have h3 := (World.ownsRow.stored h2 (4 * j + 2) (.int .i64 t)).1
  have h4 := (World.ownsRow.stored h3 (4 * j + 3) (.slice a2 n2 c2)).1
  rw [Nat.mul_comm j 4]
  have hk : ∀ {v : Value} {y : Rat}, RatioR (fun b => g < b ∧ b < w.heap.size) w v y → RatioR (fun b => g < b ∧ b < w.heap.size) ((((w.setCell ⟨g, 4 * j, none⟩ (.int .i64 s)).setCell ⟨g, 4 * j + 1, none⟩ (.slice a n c)).setCell ⟨g, 4 * j + 2, none⟩ (.int .i64 t)).setCell ⟨g, 4 * j + 3, none⟩ (.slice a2 n2 c2)) v y :=
    fun hv => hv.kept (by simp) (fun b hb => by
      rw [Go.Deep.blk_setCell_other _ _ _ _ (by simp; omega), Go.Deep.blk_setCell_other _ _ _ _ (by simp; omega), Go.Deep.blk_setCell_other _ _ _ _ (by simp; omega), Go.Deep.blk_setCell_other _ _ _ _ (by simp; omega)])
  have hsz : ((((w.setCell ⟨g, 4 * j, none⟩ (.int .i64 s)).setCell ⟨g, 4 * j + 1, none⟩ (.slice a n c)).setCell ⟨g, 4 * j + 2, none⟩ (.int .i64 t)).setCell ⟨g, 4 * j + 3, none⟩ (.slice a2 n2 c2)).heap.size = w.heap.size := by simp
  refine ⟨h4, set4l_one _ _ _ _ _ _ h.one rfl rfl rfl rfl, fun i hi => ?_⟩
  rw [hsz]
  by_cases hij : i = j
  · subst hij
    obtain ⟨e0, e1, e2, e3⟩ := set4l_in ys i (.int .i64 s) (.slice a n c) (.int .i64 t) (.slice a2 n2 c2) (by omega)
    rw [hq]
    exact ⟨s, a, n, c, t, a2, n2, c2, e0, e1, e2, e3, hk hx⟩
  · obtain ⟨hik, hqi⟩ := hq' i hi hij
    rw [hqi]
    obtain ⟨s', a', n', c', t', a2', n2', c2', e0, e1, e2, e3, e4⟩ := h.ent i hik
    exact ⟨s', a', n', c', t', a2', n2', c2', by rw [set4l_out _ _ _ _ _ _ _ (by omega)]; exact e0, by rw [set4l_out _ _ _ _ _ _ _ (by omega)]; exact e1, by rw [set4l_out _ _ _ _ _ _ _ (by omega)]; exact e2, by rw [set4l_out _ _ _ _ _ _ _ (by omega)]; exact e3, hk e4⟩
/-- Rows that are made already. -/
structure DRows (lo : Nat) (w : World) (v : Value) (k N : Nat) (M : Nat → Nat → Rat) (ms : List Value) : Prop where
  own : w.ownsRow lo 94 1 v k ms
  row : ∀ i, i < k → ∃ g rc ys, ms[i]? = some (.slice (some ⟨g, 0, none⟩) (N + 1) rc) ∧ ys.length = (N + 1) * 4 ∧ (∀ x u, ys[x]? = some u → w.cell? ⟨g, x, none⟩ = some u) ∧ g < w.heap.size ∧ v.ownBlock ≠ some g ∧ (∀ u ∈ ys, u.oneCell' = true) ∧ ∀ j, j < N + 1 → EntL (fun b => b < w.heap.size ∧ v.ownBlock ≠ some b) w ys j (M i j)
theorem DRows.zero (lo : Nat) (w : World) (N : Nat) (M : Nat → Nat → Rat) : DRows lo w (.slice none 0 0) 0 N M [] := ⟨World.ownsRow_nil _ _ _ _, fun i h => absurd h (by omega)⟩
theorem DRows.below {lo : Nat} {w w' : World} {v : Value} {k N : Nat} {M : Nat → Nat → Rat} {ms : List Value} (h : DRows lo w v k N M ms) (hb : Below w.heap.size w w') : DRows lo w' v k N M ms := by
  refine ⟨owns_below h.own hb (fun x hx => (h.own.lt x hx).2), fun i hi => ?_⟩
  obtain ⟨g, rc, ys, h1, h2, h3, h4, h5, h6, h7⟩ := h.row i hi
  refine ⟨g, rc, ys, h1, h2, fun x u hu => by rw [cellB hb _ _ h4]; exact h3 x u hu, Nat.lt_of_lt_of_le h4 hb.size, h5, h6, fun j hj => ((h7 j hj).below hb).mono (fun b hx => ⟨Nat.lt_of_lt_of_le hx.1 hb.size, hx.2⟩)⟩
/-- One more row: made in w6 (in a new block), appended in w7. -/
theorem DRows.next {lo : Nat} {w w6 w7 : World} {v v7 : Value} {k N : Nat} {M : Nat → Nat → Rat} {ms : List Value} (h : DRows lo w v k N M ms) (hb : Below w.heap.size w w6)
    {g rc : Nat} {ys : List Value} (hl : ys.length = (N + 1) * 4) (hg : w.heap.size ≤ g) (hg6 : g < w6.heap.size) (hc : ∀ x u, ys[x]? = some u → w6.cell? ⟨g, x, none⟩ = some u) (h1 : ∀ u ∈ ys, u.oneCell' = true)
    (he : ∀ j, j < N + 1 → EntL (fun b => w.heap.size ≤ b ∧ b < w6.heap.size) w6 ys j (M k j))
    (ho7 : w7.ownsRow lo 94 1 v7 (k + 1) (ms ++ [.slice (some ⟨g, 0, none⟩) (N + 1) rc])) (hg7 : w6.grownBy w7 v.ownBlock) (hv7 : v7.ownBlock = v.ownBlock ∨ v7.ownBlock = some w6.heap.size) : DRows lo w7 v7 (k + 1) N M (ms ++ [.slice (some ⟨g, 0, none⟩) (N + 1) rc]) := by
  have hz := hb.size
  have hz7 := hg7.size
  have hml : ms.length = k := by have := h.own.1; omega
  have hvlt : ∀ z, v.ownBlock = some z → z < w.heap.size := fun z hz => (h.own.lt z hz).2
  have hne : ∀ b, b < w6.heap.size → v.ownBlock ≠ some b → v7.ownBlock ≠ some b := fun b hb h2 e => by
    rcases hv7 with h7 | h7
    · rw [h7] at e; exact h2 e
    · rw [h7] at e; simp only [Option.some.injEq] at e; omega
  have hnew : ∀ b, w.heap.size ≤ b → v.ownBlock ≠ some b := fun b hb e => by have := hvlt b e; omega
  have hblk : ∀ b, b < w6.heap.size → v.ownBlock ≠ some b → w7.heap[b]? = w6.heap[b]? := fun b hb h2 => hg7.block b hb (fun e => h2 e.symm)
  refine ⟨ho7, fun i hi => ?_⟩
  by_cases hik : i = k
  · subst hik
    refine ⟨g, rc, ys, by rw [List.getElem?_append_right (by omega), hml, Nat.sub_self]; rfl, hl, fun x u hu => ?_, by omega, hne g hg6 (hnew g hg), h1, fun j hj => ?_⟩
    · rw [cell_of_block (hblk g hg6 (hnew g hg))]; exact hc x u hu
    · exact (he j hj).kept (by omega) (fun b hb => hblk b hb.2 (hnew b hb.1)) (fun b hb => ⟨by omega, hne b hb.2 (hnew b hb.1)⟩)
  · obtain ⟨g', rc', ys', e1, e2, e3, e4, e5, e6, e7⟩ := (h.below hb).row i (by omega)
    refine ⟨g', rc', ys', by rw [List.getElem?_append_left (by omega)]; exact e1, e2, fun x u hu => ?_, by omega, hne g' e4 e5, e6, fun j hj => ?_⟩
    · rw [cell_of_block (hblk g' e4 e5)]; exact e3 x u hu
    · exact (e7 j hj).kept (by omega) (fun b hb => hblk b hb.1 hb.2) (fun b hb => ⟨by omega, hne b hb.1 hb.2⟩)
/-- All rows: what Solve takes. -/
theorem DRows.rows {lo : Nat} {w : World} {a : Option Addr} {N c : Nat} {M : Nat → Nat → Rat} {ms : List Value} (h : DRows lo w (.slice a N c) N N M ms) (hN : N ≤ 1000) : RowsR w a N ms M := by
  refine ⟨SlR.of_owns h.own, fun i hi => ?_⟩
  obtain ⟨g, rc, ys, h1, h2, h3, h4, h5, h6, h7⟩ := h.row i hi
  refine ⟨some ⟨g, 0, none⟩, rc, ys, h1, ⟨h2, by unfold maxLen; omega, fun _ => ⟨g, 0, rfl, h4, fun x u hu => by rw [Nat.zero_add]; exact h3 x u hu⟩⟩, h6, fun j hj => (h7 j hj).mono (fun b hb => hb.1)⟩
theorem made_one (a b c d : Value) (ha : a.oneCell' = true) (hb : b.oneCell' = true) (hc : c.oneCell' = true) (hd : d.oneCell' = true) (n : Nat) : ∀ u ∈ (madeCells #[a, b, c, d] n).toList, u.oneCell' = true := by
  intro u hu
  simp only [madeCells, Array.toList_map, List.mem_map] at hu
  obtain ⟨i, _, rfl⟩ := hu
  have h4 : i % 4 < 4 := Nat.mod_lt _ (by omega)
  have e : i % 4 = 0 ∨ i % 4 = 1 ∨ i % 4 = 2 ∨ i % 4 = 3 := by omega
  show (#[a, b, c, d][i % 4]!).oneCell' = true
  rcases e with e | e | e | e <;> rw [e]
  · exact ha
  · exact hb
  · exact hc
  · exact hd
/-- One more ratio appended to a full row. -/
theorem RowQ.snoc {lo : Nat} {w w' : World} {g N : Nat} {q : Nat → Rat} {ys : List Value} (h : RowQ lo w g N N q ys) {x : Rat} {s t : Int} {a a2 : Option Addr} {n c n2 c2 : Nat}
    (hx : RatioR (fun b => g < b ∧ b < w.heap.size) w (.agg #[.int .i64 s, .slice a n c, .int .i64 t, .slice a2 n2 c2]) x) {v' : Value}
    (ho : w'.ownsRow lo 101 4 v' (N + 1) (ys ++ [.int .i64 s, .slice a n c, .int .i64 t, .slice a2 n2 c2])) (hg : w.grownBy w' (some g)) :
    ∃ g' rc, v' = .slice (some ⟨g', 0, none⟩) (N + 1) rc ∧ lo ≤ g' ∧ g' < w'.heap.size ∧ (∀ i u, (ys ++ [Value.int .i64 s, .slice a n c, .int .i64 t, .slice a2 n2 c2])[i]? = some u → w'.cell? ⟨g', i, none⟩ = some u)
    ∧ (∀ u ∈ ys ++ [Value.int .i64 s, .slice a n c, .int .i64 t, .slice a2 n2 c2], u.oneCell' = true)
    ∧ (ys ++ [Value.int .i64 s, .slice a n c, .int .i64 t, .slice a2 n2 c2]).length = (N + 1) * 4
    ∧ ∀ j, j < N + 1 → EntL (fun b => g < b ∧ b < w.heap.size) w' (ys ++ [.int .i64 s, .slice a n c, .int .i64 t, .slice a2 n2 c2]) j (if j = N then x else q j) := by
  have hl := h.len
  obtain ⟨av, rc, rfl, _, _⟩ := owns_slice ho
  obtain ⟨g', rfl⟩ : ∃ g', av = some ⟨g', 0, none⟩ := by
    rcases ho.2 with ⟨_, h0⟩ | ⟨g', cap, cur, hv, _⟩
    · omega
    · simp only [Value.slice.injEq] at hv
      exact ⟨g', hv.1⟩
  have hk : ∀ b, g < b ∧ b < w.heap.size → w'.heap[b]? = w.heap[b]? := fun b hb => hg.block b hb.2 (fun e => by simp only [Option.some.injEq] at e; omega)
  have hlt := ho.lt g' rfl
  refine ⟨g', rc, rfl, hlt.1, hlt.2, fun i u hu => ?_, fun u hu => ?_, ho.1, fun j hj => ?_⟩
  · have := ho.cells (g := g') rfl i u hu
    rwa [Addr.add_lit, Nat.zero_add] at this
  · rcases List.mem_append.1 hu with hu | hu
    · exact h.one u hu
    · simp only [List.mem_cons, List.not_mem_nil, or_false] at hu
      rcases hu with rfl | rfl | rfl | rfl <;> rfl
  · by_cases hjN : j = N
    · subst hjN
      rw [if_pos rfl]
      have e : ∀ i, (ys ++ [Value.int .i64 s, .slice a n c, .int .i64 t, .slice a2 n2 c2])[4 * j + i]? = [Value.int .i64 s, .slice a n c, .int .i64 t, .slice a2 n2 c2][i]? := fun i => by
        rw [List.getElem?_append_right (by omega), show 4 * j + i - ys.length = i by omega]
      exact ⟨s, a, n, c, t, a2, n2, c2, by rw [← Nat.add_zero (4 * j), e]; rfl, by rw [e]; rfl, by rw [e]; rfl, by rw [e]; rfl, hx.kept hg.size hk⟩
    · rw [if_neg hjN]
      exact ((h.ent j (by omega)).kept hg.size hk (fun b hb => hb)).left (by omega)
/-- A row begins empty. -/
theorem RowQ.zero {lo : Nat} {w : World} {g N : Nat} {ys : List Value} (ho : w.ownsRow lo 101 4 (.slice (some ⟨g, 0, none⟩) N N) N ys) (h1 : ∀ u ∈ ys, u.oneCell' = true) (q : Nat → Rat) : RowQ lo w g N 0 q ys := ⟨ho, h1, fun j hj => absurd hj (by omega)⟩
theorem makeRatios (P : Program) (w : World) (t e : TypeId) (ht : P.underlying t = some (.slice e)) (hi : (P.info? e).map (fun i => (i.zero, i.size, i.bytes)) = some (some (.agg #[.int .i64 0, .slice none 0 0, .int .i64 0, .slice none 0 0]), 4, 64)) (n : Nat) (hn : n ≤ 100000) :
    (Instr.makeSlice t (.int .i64 n) (.int .i64 n)).run P w = .ok (.slice (some ⟨w.heap.size, 0, none⟩) n n) (w.alloc (.cells (madeCells #[.int .i64 0, .slice none 0 0, .int .i64 0, .slice none 0 0] (n * 4)) e)) := by
  obtain ⟨i, hi1, hi2, hi3, hi4⟩ := info_parts hi
  have hr := run_make (P := P) w t e i _ ht hi1 hi2 .i64 .i64 n n (by omega) (Int.le_refl _) (by rw [hi4]; omega) (by omega)
  simp only [Int.toNat_natCast, hi3] at hr
  exact hr
end Go.Proofs.YtbjgklifmillgaaGreat

/- The equations of a ladder's nodes: they have one solution, the initial distribution. No program in sight. -/
namespace Go.Proofs.YtbjgklifmillgaaGreat
open Go.RowKit
set_option linter.unusedVariables false

theorem rsum_three {f : Nat → Rat} (c : Nat) : ∀ n, c + 2 < n → (∀ k, k < n → k ≠ c → k ≠ c + 1 → k ≠ c + 2 → f k = 0) → rsum f n = f c + f (c + 1) + f (c + 2)
  | 0, hc, _ => by omega
  | n + 1, hc, h => by
    simp only [rsum]
    by_cases hn : c + 2 = n
    · subst hn; rw [rsum_two c (c + 1) (c + 2) (by omega) (by omega) (by omega) (fun k hk h1 h2 => h k (by omega) h1 h2 (by omega))]
    · rw [rsum_three c n (by omega) (fun k hk => h k (by omega)), h n (by omega) (by omega) (by omega) (by omega)]; grind
/-- The row of a node: its coefficients, and behind them the right side. -/
def drow (s e : List Int) (n : Nat) (g : Bool) (j k : Nat) : Int :=
  if j = 0 then (if k = 0 ∨ k = n + 1 then 1 else 0)
  else if j = n ∧ g = true then (if k = n then 1 else 0)
  else if k + 1 = j then -(s.getD (j - 1) 0)
  else if k = j then (if j < n then s.getD (j - 1) 0 + e.getD (j - 1) 0 + s.getD j 0 else s.getD (j - 1) 0 + e.getD (j - 1) 0)
  else if k = j + 1 ∧ j < n then -(s.getD j 0)
  else 0
def dmat (s e : List Int) (n : Nat) (g : Bool) (j k : Nat) : Rat := ((drow s e n g j k : Int) : Rat)
theorem dmat_rhs (s e : List Int) (n : Nat) (g : Bool) (j : Nat) (hj : j ≤ n) : dmat s e n g j (n + 1) = if j = 0 then 1 else 0 := by
  unfold dmat drow
  by_cases h0 : j = 0
  · rw [if_pos h0, if_pos h0, if_pos (.inr rfl)]; rfl
  · rw [if_neg h0, if_neg h0]
    by_cases h1 : j = n ∧ g = true
    · rw [if_pos h1, if_neg (by omega)]; rfl
    · rw [if_neg h1, if_neg (by omega), if_neg (by omega), if_neg (by omega)]; rfl
theorem drow_zero (s e : List Int) (n : Nat) (g : Bool) (x : Nat → Rat) : rsum (fun k => dmat s e n g 0 k * x k) (n + 1) = x 0 := by
  rw [rsum_one 0 (n + 1) (by omega) (fun k hk h0 => by
    unfold dmat drow; rw [if_pos rfl, if_neg (by omega)]; exact Rat.zero_mul _)]
  unfold dmat drow
  simp
theorem drow_end (s e : List Int) (n : Nat) (x : Nat → Rat) (hn : 0 < n) : rsum (fun k => dmat s e n true n k * x k) (n + 1) = x n := by
  rw [rsum_one n (n + 1) (by omega) (fun k hk h0 => by
    unfold dmat drow; rw [if_neg (by omega), if_pos ⟨rfl, rfl⟩, if_neg h0]; exact Rat.zero_mul _)]
  unfold dmat drow
  rw [if_neg (by omega), if_pos ⟨rfl, rfl⟩, if_pos rfl]
  simp
theorem drow_open (s e : List Int) (n : Nat) (x : Nat → Rat) (j : Nat) (hn : n = j + 1) : rsum (fun k => dmat s e n false n k * x k) (n + 1) = -(qf s j) * x j + (qf s j + qf e j) * x (j + 1) := by
  subst hn
  rw [rsum_two j (j + 1) (j + 1 + 1) (by omega) (by omega) (by omega) (fun k hk h0 h1 => by
    unfold dmat drow; rw [if_neg (by omega), if_neg (by simp), if_neg (by omega), if_neg (by omega), if_neg (by omega)]; exact Rat.zero_mul _)]
  have e1 : dmat s e (j + 1) false (j + 1) j = -(qf s j) := by
    unfold dmat drow qf; rw [if_neg (by omega), if_neg (by simp), if_pos rfl, Nat.add_sub_cancel, Rat.intCast_neg]
  have e2 : dmat s e (j + 1) false (j + 1) (j + 1) = qf s j + qf e j := by
    unfold dmat drow qf; rw [if_neg (by omega), if_neg (by simp), if_neg (by omega), if_pos rfl, if_neg (by omega), Nat.add_sub_cancel, Rat.intCast_add]
  rw [e1, e2]
theorem drow_mid (s e : List Int) (n : Nat) (g : Bool) (x : Nat → Rat) (j : Nat) (hj : j + 1 < n) : rsum (fun k => dmat s e n g (j + 1) k * x k) (n + 1) = -(qf s j) * x j + (qf s j + qf e j + qf s (j + 1)) * x (j + 1) + -(qf s (j + 1)) * x (j + 2) := by
  rw [rsum_three j (n + 1) (by omega) (fun k hk h0 h1 h2 => by
    unfold dmat drow; rw [if_neg (by omega), if_neg (by omega), if_neg (by omega), if_neg (by omega), if_neg (by omega)]; exact Rat.zero_mul _)]
  have e1 : dmat s e n g (j + 1) j = -(qf s j) := by
    unfold dmat drow qf; rw [if_neg (by omega), if_neg (by omega), if_pos rfl, Nat.add_sub_cancel, Rat.intCast_neg]
  have e2 : dmat s e n g (j + 1) (j + 1) = qf s j + qf e j + qf s (j + 1) := by
    unfold dmat drow qf; rw [if_neg (by omega), if_neg (by omega), if_neg (by omega), if_pos rfl, if_pos hj, Nat.add_sub_cancel, Rat.intCast_add, Rat.intCast_add]
  have e3 : dmat s e n g (j + 1) (j + 2) = -(qf s (j + 1)) := by
    unfold dmat drow qf; rw [if_neg (by omega), if_neg (by omega), if_neg (by omega), if_neg (by omega), if_pos ⟨rfl, hj⟩, Rat.intCast_neg]
  rw [e1, e2, e3]
/-- Each node's voltage is a part of the one ahead of it. -/
theorem Lad.parts {s e : List Int} {g : Bool} {n L : Nat} (h : Lad s e g n L) {x : Nat → Rat} (hx : Sol (n + 1) (dmat s e n g) 0 x) : ∀ m j, j + 1 + m = n → ∃ r : Rat, 0 ≤ r ∧ r ≤ 1 ∧ x (j + 1) = r * x j
  | 0, j, hj => by
    have h1 := hx n (by omega)
    have hs := h.qs (k := j) (by omega)
    have he := h.qe (k := j) (by omega)
    cases g
    · rw [drow_open s e n x j (by omega)] at h1
      refine ⟨qf s j / (qf s j + qf e j), rdiv_nn (by grind) (by grind), ?_, ?_⟩
      · have := rdiv_le (a := qf s j) (b := qf s j + qf e j) (c := 1) (d := 1) (by grind) (by grind) (by grind)
        have e1 : (1 : Rat) / 1 = 1 := by grind
        rwa [e1] at this
      · have : qf s j + qf e j ≠ 0 := by grind
        grind
    · rw [drow_end s e n x h.n0] at h1
      refine ⟨0, by grind, by grind, ?_⟩
      rw [show j + 1 = n by omega, h1]; grind
  | m + 1, j, hj => by
    obtain ⟨r, r0, r1, hr⟩ := h.parts hx m (j + 1) (by omega)
    have h1 := hx (j + 1) (by omega)
    have hs := h.qs (k := j) (by omega)
    have he := h.qe (k := j) (by omega)
    have hs2 := h.qs (k := j + 1) (by omega)
    rw [drow_mid s e n g x j (by omega), show j + 2 = j + 1 + 1 from rfl, hr] at h1
    have h2 : 0 ≤ qf s (j + 1) * (1 - r) := rmul_nn (by grind) (by grind)
    refine ⟨qf s j / (qf s j + (qf e j + qf s (j + 1) * (1 - r))), rdiv_nn (by grind) (by grind), ?_, ?_⟩
    · have := rdiv_le (a := qf s j) (b := qf s j + (qf e j + qf s (j + 1) * (1 - r))) (c := 1) (d := 1) (by grind) (by grind) (by grind)
      have e1 : (1 : Rat) / 1 = 1 := by grind
      rwa [e1] at this
    · have : qf s j + (qf e j + qf s (j + 1) * (1 - r)) ≠ 0 := by grind
      grind
theorem Lad.only {s e : List Int} {g : Bool} {n L : Nat} (h : Lad s e g n L) : Only (n + 1) (dmat s e n g) := by
  intro x hx k hk
  have h0 : x 0 = 0 := by
    have h1 := hx 0 (by omega)
    rw [drow_zero] at h1
    rw [h1]; grind
  have : ∀ k, k < n + 1 → x k = 0 := by
    intro k
    induction k with
    | zero => intro _; exact h0
    | succ j ih =>
      intro hk
      obtain ⟨r, _, _, hr⟩ := h.parts hx (n - (j + 1)) j (by omega)
      rw [hr, ih (by omega)]; grind
  exact this k hk
/-- The initial distribution solves the equations. -/
theorem Lad.sol {s e : List Int} {g : Bool} {n L : Nat} (h : Lad s e g n L) : Sol (n + 1) (dmat s e n g) 1 (fun j => ((nu s e L j : Int) : Rat) / ((dd s e L L : Int) : Rat)) := by
  have hLn := h.Ln
  have hD := q_lt h.D
  intro i hi
  rw [dmat_rhs _ _ _ _ _ (by omega)]
  rcases i with _ | j
  · rw [drow_zero, nu_zero]
    grind
  · rw [if_neg (by omega)]
    by_cases hjn : j + 1 < n
    · have he := h.eq (j := j) (by omega)
      rw [drow_mid s e n g _ j hjn]
      rw [if_pos hjn] at he
      unfold ownOf at he
      rw [if_pos (by rw [h.ls]; exact hjn)] at he
      have he2 : ((( (s.getD j 0 + e.getD j 0 + s.getD (j + 1) 0) * nu s e L (j + 1) + -(g0' s j) * nu s e L j + -(g0' s (j + 1)) * nu s e L (j + 1 + 1) : Int)) : Rat) = 0 := by rw [he]; rfl
      simp only [Rat.intCast_add, Rat.intCast_mul, Rat.intCast_neg] at he2
      unfold qf g0' at *
      show _ * (_ / _) + _ * (_ / _) + _ * (((nu s e L (j + 1 + 1) : Int) : Rat) / _) = _
      grind
    · obtain rfl : n = j + 1 := by omega
      cases hg : g
      · have hL : L = j + 1 := by have := h.hL; unfold lastOf at this; rw [hg] at this; simp at this; omega
        have he := h.eq (j := j) (by omega)
        rw [drow_open s e (j + 1) _ j rfl]
        rw [if_neg hjn] at he
        unfold ownOf at he
        rw [if_neg (by rw [h.ls]; omega)] at he
        have he2 : ((( (s.getD j 0 + e.getD j 0) * nu s e L (j + 1) + -(g0' s j) * nu s e L j + 0 : Int)) : Rat) = 0 := by rw [he]; rfl
        simp only [Rat.intCast_add, Rat.intCast_mul, Rat.intCast_neg] at he2
        unfold qf g0' at *
        grind
      · have hL : L < j + 1 := by have := h.hL; unfold lastOf at this; rw [hg] at this; simp at this; omega
        rw [drow_end s e (j + 1) _ (by omega)]
        have : nu s e L (j + 1) = 0 := by unfold nu; rw [if_neg (by omega)]
        rw [this]
        grind
theorem Lad.solved {s e : List Int} {g : Bool} {n L : Nat} (h : Lad s e g n L) {x : Nat → Rat} (hx : Sol (n + 1) (dmat s e n g) 1 x) {k : Nat} (hk : k < n + 1) : x k = ((nu s e L k : Int) : Rat) / ((dd s e L L : Int) : Rat) := h.only.eq hx h.sol k hk
end Go.Proofs.YtbjgklifmillgaaGreat

/- A row of ratios beside one more ratio in a cell of its own. -/
namespace Go.Proofs.YtbjgklifmillgaaGreat
open Go.RowKit
set_option linter.unusedVariables false

/-- Blocks of the digits. -/
def PX (g X : Nat) (w : World) (c : Nat) : Prop := g < c ∧ c < w.heap.size ∧ c ≠ X
theorem PX.up {g X c : Nat} {w w' : World} (h : PX g X w c) (hs : w.heap.size ≤ w'.heap.size) : PX g X w' c := ⟨h.1, Nat.lt_of_lt_of_le h.2.1 hs, h.2.2⟩
structure BRow (lo : Nat) (w : World) (g X N : Nat) (q : Nat → Rat) (b : Rat) (ys : List Value) : Prop where
  own : w.ownsRow lo 101 4 (.slice (some ⟨g, 0, none⟩) N N) N ys
  one : ∀ u ∈ ys, u.oneCell' = true
  ent : ∀ j, j < N → EntL (PX g X w) w ys j (q j)
  bx : EntR (PX g X w) w X 0 b
  hX : g < X ∧ X < w.heap.size
  frX : ∀ o, w.frozen? ⟨X, o, none⟩ = false
theorem BRow.len {lo : Nat} {w : World} {g X N : Nat} {q : Nat → Rat} {b : Rat} {ys : List Value} (h : BRow lo w g X N q b ys) : ys.length = 4 * N := by have := h.own.1; omega
theorem BRow.lt {lo : Nat} {w : World} {g X N : Nat} {q : Nat → Rat} {b : Rat} {ys : List Value} (h : BRow lo w g X N q b ys) : lo ≤ g ∧ g < w.heap.size := h.own.lt g rfl
theorem BRow.congr {lo : Nat} {w : World} {g X N : Nat} {q q' : Nat → Rat} {b b' : Rat} {ys : List Value} (h : BRow lo w g X N q b ys) (hq : ∀ j, j < N → q j = q' j) (hb : b = b') : BRow lo w g X N q' b' ys :=
  ⟨h.own, h.one, fun j hj => by rw [← hq j hj]; exact h.ent j hj, by rw [← hb]; exact h.bx, h.hX, h.frX⟩
theorem BRow.below {lo : Nat} {w w' : World} {g X N : Nat} {q : Nat → Rat} {b : Rat} {ys : List Value} (h : BRow lo w g X N q b ys) (hb : Below w.heap.size w w') : BRow lo w' g X N q b ys :=
  ⟨owns_below h.own hb (fun x hx => (h.own.lt x hx).2), h.one, fun j hj => ((h.ent j hj).below hb).mono (fun c hc => hc.up hb.size), (h.bx.below h.hX.2 hb).mono (fun c hc => hc.up hb.size), ⟨h.hX.1, Nat.lt_of_lt_of_le h.hX.2 hb.size⟩,
    fun o => by rw [frozenB hb _ _ h.hX.2]; exact h.frX o⟩
theorem BRow.cells {lo : Nat} {w : World} {g X N : Nat} {q : Nat → Rat} {b : Rat} {ys : List Value} (h : BRow lo w g X N q b ys) {j : Nat} (hj : j < N) : ∃ u0 u1 u2 u3, w.cell? ⟨g, j * 4, none⟩ = some u0 ∧ w.cell? ⟨g, j * 4 + 1, none⟩ = some u1 ∧ w.cell? ⟨g, j * 4 + 2, none⟩ = some u2 ∧ w.cell? ⟨g, j * 4 + 3, none⟩ = some u3
    ∧ w.frozen? ⟨g, j * 4, none⟩ = false ∧ w.frozen? ⟨g, j * 4 + 1, none⟩ = false ∧ w.frozen? ⟨g, j * 4 + 2, none⟩ = false ∧ w.frozen? ⟨g, j * 4 + 3, none⟩ = false := by
  have hl := h.len
  refine ⟨ys[j * 4]'(by omega), ys[j * 4 + 1]'(by omega), ys[j * 4 + 2]'(by omega), ys[j * 4 + 3]'(by omega), ?_, ?_, ?_, ?_, h.own.frozenAt _, h.own.frozenAt _, h.own.frozenAt _, h.own.frozenAt _⟩ <;> (rw [h.own.cellAt _ (by omega)]; simp)
theorem BRow.xcells {lo : Nat} {w : World} {g X N : Nat} {q : Nat → Rat} {b : Rat} {ys : List Value} (h : BRow lo w g X N q b ys) : ∃ (s : Int) (a : Option Addr) (n c : Nat) (t : Int) (a2 : Option Addr) (n2 c2 : Nat),
    w.cell? ⟨X, 0, none⟩ = some (.int .i64 s) ∧ w.cell? ⟨X, 1, none⟩ = some (.slice a n c) ∧ w.cell? ⟨X, 2, none⟩ = some (.int .i64 t) ∧ w.cell? ⟨X, 3, none⟩ = some (.slice a2 n2 c2)
    ∧ RatioR (PX g X w) w (.agg #[.int .i64 s, .slice a n c, .int .i64 t, .slice a2 n2 c2]) b := h.bx
/-- An entry of the row stored. -/
theorem BRow.set {lo : Nat} {w : World} {g X N : Nat} {q : Nat → Rat} {b : Rat} {ys : List Value} (h : BRow lo w g X N q b ys) {j : Nat} (hj : j < N) {x : Rat} {s t : Int} {a a2 : Option Addr} {n c n2 c2 : Nat}
    (hx : RatioR (PX g X w) w (.agg #[.int .i64 s, .slice a n c, .int .i64 t, .slice a2 n2 c2]) x) (q' : Nat → Rat) (hq : q' j = x) (hq' : ∀ i, i < N → i ≠ j → q' i = q i) :
    BRow lo ((((w.setCell ⟨g, j * 4, none⟩ (.int .i64 s)).setCell ⟨g, j * 4 + 1, none⟩ (.slice a n c)).setCell ⟨g, j * 4 + 2, none⟩ (.int .i64 t)).setCell ⟨g, j * 4 + 3, none⟩ (.slice a2 n2 c2)) g X N q' b
      (set4l ys j (.int .i64 s) (.slice a n c) (.int .i64 t) (.slice a2 n2 c2)) := by
  have hl := h.len
  have hgX := h.hX.1
  have h1 := (World.ownsRow.stored h.own (4 * j) (.int .i64 s)).1
  have h2 := (World.ownsRow.stored h1 (4 * j + 1) (.slice a n c)).1
  have h3 := (World.ownsRow.stored h2 (4 * j + 2) (.int .i64 t)).1
  have h4 := (World.ownsRow.stored h3 (4 * j + 3) (.slice a2 n2 c2)).1
  rw [Nat.mul_comm j 4]
  have hsz : ((((w.setCell ⟨g, 4 * j, none⟩ (.int .i64 s)).setCell ⟨g, 4 * j + 1, none⟩ (.slice a n c)).setCell ⟨g, 4 * j + 2, none⟩ (.int .i64 t)).setCell ⟨g, 4 * j + 3, none⟩ (.slice a2 n2 c2)).heap.size = w.heap.size := by simp
  have hoth : ∀ k, k ≠ g → ((((w.setCell ⟨g, 4 * j, none⟩ (.int .i64 s)).setCell ⟨g, 4 * j + 1, none⟩ (.slice a n c)).setCell ⟨g, 4 * j + 2, none⟩ (.int .i64 t)).setCell ⟨g, 4 * j + 3, none⟩ (.slice a2 n2 c2)).heap[k]? = w.heap[k]? := fun k hk => by
    rw [Go.Deep.blk_setCell_other _ _ _ _ hk, Go.Deep.blk_setCell_other _ _ _ _ hk, Go.Deep.blk_setCell_other _ _ _ _ hk, Go.Deep.blk_setCell_other _ _ _ _ hk]
  have hP : ∀ c, PX g X w c → PX g X ((((w.setCell ⟨g, 4 * j, none⟩ (.int .i64 s)).setCell ⟨g, 4 * j + 1, none⟩ (.slice a n c)).setCell ⟨g, 4 * j + 2, none⟩ (.int .i64 t)).setCell ⟨g, 4 * j + 3, none⟩ (.slice a2 n2 c2)) c := fun c hc => ⟨hc.1, by simpa using hc.2.1, hc.2.2⟩
  have hk : ∀ {v : Value} {y : Rat}, RatioR (PX g X w) w v y → RatioR (PX g X w) ((((w.setCell ⟨g, 4 * j, none⟩ (.int .i64 s)).setCell ⟨g, 4 * j + 1, none⟩ (.slice a n c)).setCell ⟨g, 4 * j + 2, none⟩ (.int .i64 t)).setCell ⟨g, 4 * j + 3, none⟩ (.slice a2 n2 c2)) v y :=
    fun hv => hv.kept (by simp) (fun b hb => hoth b (by have := hb.1; omega))
  refine ⟨h4, set4l_one _ _ _ _ _ _ h.one rfl rfl rfl rfl, fun i hi => ?_, (h.bx.kept (by simp) (hoth X (by omega)) (fun c hc => hoth c (by have := hc.1; omega))).mono (fun c hc => ⟨hc.1, by simpa using hc.2.1, hc.2.2⟩), ⟨h.hX.1, by rw [hsz]; exact h.hX.2⟩, fun o => by simpa using h.frX o⟩
  by_cases hij : i = j
  · subst hij
    obtain ⟨e0, e1, e2, e3⟩ := set4l_in ys i (.int .i64 s) (.slice a n c) (.int .i64 t) (.slice a2 n2 c2) (by omega)
    rw [hq]
    exact ⟨s, a, n, c, t, a2, n2, c2, e0, e1, e2, e3, (hk hx).mono (fun c hc => ⟨hc.1, by simpa using hc.2.1, hc.2.2⟩)⟩
  · rw [hq' i hi hij]
    obtain ⟨s', a', n', c', t', a2', n2', c2', e0, e1, e2, e3, e4⟩ := h.ent i hi
    exact ⟨s', a', n', c', t', a2', n2', c2', by rw [set4l_out _ _ _ _ _ _ _ (by omega)]; exact e0, by rw [set4l_out _ _ _ _ _ _ _ (by omega)]; exact e1, by rw [set4l_out _ _ _ _ _ _ _ (by omega)]; exact e2, by rw [set4l_out _ _ _ _ _ _ _ (by omega)]; exact e3, (hk e4).mono (fun c hc => ⟨hc.1, by simpa using hc.2.1, hc.2.2⟩)⟩
/-- The other ratio stored. -/
theorem BRow.setX {lo : Nat} {w : World} {g X N : Nat} {q : Nat → Rat} {b : Rat} {ys : List Value} (h : BRow lo w g X N q b ys) {x : Rat} {s t : Int} {a a2 : Option Addr} {n c n2 c2 : Nat}
    (hx : RatioR (PX g X w) w (.agg #[.int .i64 s, .slice a n c, .int .i64 t, .slice a2 n2 c2]) x) :
    BRow lo ((((w.setCell ⟨X, 0, none⟩ (.int .i64 s)).setCell ⟨X, 1, none⟩ (.slice a n c)).setCell ⟨X, 2, none⟩ (.int .i64 t)).setCell ⟨X, 3, none⟩ (.slice a2 n2 c2)) g X N q x ys := by
  obtain ⟨s', a', n', c', t', a2', n2', c2', e0, e1, e2, e3, e4⟩ := h.bx
  obtain ⟨x1, x2, x3, x4, x5, x6, x7, x8⟩ := set4 w X 0 (.int .i64 s) (.slice a n c) (.int .i64 t) (.slice a2 n2 c2) e0 e1 e2 e3 _ rfl
  have hgX := h.hX.1
  have hk : ∀ {v : Value} {y : Rat}, RatioR (PX g X w) w v y → RatioR (PX g X w) ((((w.setCell ⟨X, 0, none⟩ (.int .i64 s)).setCell ⟨X, 1, none⟩ (.slice a n c)).setCell ⟨X, 2, none⟩ (.int .i64 t)).setCell ⟨X, 3, none⟩ (.slice a2 n2 c2)) v y :=
    fun hv => hv.kept (by simp) (fun b hb => x3 b hb.2.2)
  have hown : (((((w.setCell ⟨X, 0, none⟩ (.int .i64 s)).setCell ⟨X, 1, none⟩ (.slice a n c)).setCell ⟨X, 2, none⟩ (.int .i64 t)).setCell ⟨X, 3, none⟩ (.slice a2 n2 c2))).ownsRow lo 101 4 (.slice (some ⟨g, 0, none⟩) N N) N ys := by
    refine ⟨h.own.1, ?_⟩
    rcases h.own.2 with hn | ⟨g', cap, cur, hv, hbase, hgg, rest⟩
    · exact .inl hn
    · have hv2 := hv
      simp only [Value.slice.injEq, Option.some.injEq, Addr.mk.injEq, and_true, true_and] at hv2
      obtain ⟨rfl, _⟩ := hv2
      exact .inr ⟨g, cap, cur, hv, hbase, by rw [x3 g (by omega)]; exact hgg, rest⟩
  refine ⟨hown, h.one, fun j hj => ((h.ent j hj).kept (by simp) (fun c hc => x3 c hc.2.2) (fun c hc => hc)).mono (fun c hc => ⟨hc.1, by simpa using hc.2.1, hc.2.2⟩), ⟨s, a, n, c, t, a2, n2, c2, x5, x6, x7, x8, (hk hx).mono (fun c hc => ⟨hc.1, by simpa using hc.2.1, hc.2.2⟩)⟩, ⟨h.hX.1, by simpa using h.hX.2⟩, fun o => by simpa using h.frX o⟩
/-- The beginning: the row is full, the other ratio lies in a new block. -/
theorem BRow.start {lo : Nat} {w : World} {g X N : Nat} {q : Nat → Rat} {ys : List Value} {e : TypeId} (h : RowQ lo w g N N q ys) (hX : X = w.heap.size)
    {x : Rat} {s t : Int} {a a2 : Option Addr} {n c n2 c2 : Nat} (hx : RatioR (fun b => g < b ∧ b < w.heap.size) w (.agg #[.int .i64 s, .slice a n c, .int .i64 t, .slice a2 n2 c2]) x) :
    BRow lo (w.alloc (Obj.cells #[.int .i64 s, .slice a n c, .int .i64 t, .slice a2 n2 c2] e)) g X N q x ys := by
  have hl := h.lt
  have hb : Below w.heap.size w (w.alloc (Obj.cells #[.int .i64 s, .slice a n c, .int .i64 t, .slice a2 n2 c2] e)) := (Below.refl _ _).alloc (Nat.le_refl _) _
  have hxr : (w.alloc (Obj.cells #[.int .i64 s, .slice a n c, .int .i64 t, .slice a2 n2 c2] e)).heap[X]? = some (.cells #[.int .i64 s, .slice a n c, .int .i64 t, .slice a2 n2 c2] e) := by rw [hX]; exact heap_alloc_new _ _
  have hsz : (w.alloc (Obj.cells #[.int .i64 s, .slice a n c, .int .i64 t, .slice a2 n2 c2] e)).heap.size = X + 1 := by rw [hX]; simp
  have d0 := cell_of_row _ _ 0 _ _ _ hxr
  have d1 := cell_of_row _ _ 1 _ _ _ hxr
  have d2 := cell_of_row _ _ 2 _ _ _ hxr
  have d3 := cell_of_row _ _ 3 _ _ _ hxr
  simp only [List.getElem?_toArray, List.getElem?_cons_zero, List.getElem?_cons_succ] at d0 d1 d2 d3
  have hP : ∀ k, (g < k ∧ k < w.heap.size) → PX g X (w.alloc (Obj.cells #[.int .i64 s, .slice a n c, .int .i64 t, .slice a2 n2 c2] e)) k := fun k hk => ⟨hk.1, by omega, by omega⟩
  refine ⟨owns_below h.own hb (fun x hx => (h.own.lt x hx).2), h.one, fun j hj => ((h.ent j hj).below hb).mono hP, ⟨s, a, n, c, t, a2, n2, c2, d0, d1, d2, d3, (hx.below hb).mono hP⟩, ⟨by omega, by omega⟩, fun o => ?_⟩
  exact frozen_of_row _ _ o _ _ hxr
/-- The row and the other ratio. -/
theorem BRow.row {lo : Nat} {w : World} {g X N : Nat} {q : Nat → Rat} {b : Rat} {ys : List Value} (h : BRow lo w g X N q b ys) : RowQ lo w g N N q ys := ⟨h.own, h.one, fun j hj => (h.ent j hj).mono (fun c hc => ⟨hc.1, hc.2.1⟩)⟩
/-- The same, whatever the cells are. -/
def BR (g : Nat) (w : World) (X N : Nat) (q : Nat → Rat) (b : Rat) : Prop := ∃ ys, BRow g w g X N q b ys
theorem BR.below {g : Nat} {w w' : World} {X N : Nat} {q : Nat → Rat} {b : Rat} (h : BR g w X N q b) (hb : Below w.heap.size w w') : BR g w' X N q b := by
  obtain ⟨ys, h⟩ := h; exact ⟨ys, h.below hb⟩
theorem BR.congr {g : Nat} {w : World} {X N : Nat} {q q' : Nat → Rat} {b b' : Rat} (h : BR g w X N q b) (hq : ∀ j, j < N → q j = q' j) (hb : b = b') : BR g w X N q' b' := by
  obtain ⟨ys, h⟩ := h; exact ⟨ys, h.congr hq hb⟩
theorem BR.hX {g : Nat} {w : World} {X N : Nat} {q : Nat → Rat} {b : Rat} (h : BR g w X N q b) : g < X ∧ X < w.heap.size := by
  obtain ⟨ys, h⟩ := h; exact h.hX
theorem BR.frX {g : Nat} {w : World} {X N : Nat} {q : Nat → Rat} {b : Rat} (h : BR g w X N q b) (o : Nat) : w.frozen? ⟨X, o, none⟩ = false := by
  obtain ⟨ys, h⟩ := h; exact h.frX o
theorem BR.cells {g : Nat} {w : World} {X N : Nat} {q : Nat → Rat} {b : Rat} (h : BR g w X N q b) {j : Nat} (hj : j < N) : ∃ u0 u1 u2 u3, w.cell? ⟨g, j * 4, none⟩ = some u0 ∧ w.cell? ⟨g, j * 4 + 1, none⟩ = some u1 ∧ w.cell? ⟨g, j * 4 + 2, none⟩ = some u2 ∧ w.cell? ⟨g, j * 4 + 3, none⟩ = some u3
    ∧ w.frozen? ⟨g, j * 4, none⟩ = false ∧ w.frozen? ⟨g, j * 4 + 1, none⟩ = false ∧ w.frozen? ⟨g, j * 4 + 2, none⟩ = false ∧ w.frozen? ⟨g, j * 4 + 3, none⟩ = false := by
  obtain ⟨ys, h⟩ := h; exact h.cells hj
theorem BR.xcells {g : Nat} {w : World} {X N : Nat} {q : Nat → Rat} {b : Rat} (h : BR g w X N q b) : ∃ (s : Int) (a : Option Addr) (n c : Nat) (t : Int) (a2 : Option Addr) (n2 c2 : Nat),
    w.cell? ⟨X, 0, none⟩ = some (.int .i64 s) ∧ w.cell? ⟨X, 1, none⟩ = some (.slice a n c) ∧ w.cell? ⟨X, 2, none⟩ = some (.int .i64 t) ∧ w.cell? ⟨X, 3, none⟩ = some (.slice a2 n2 c2)
    ∧ RatioR (PX g X w) w (.agg #[.int .i64 s, .slice a n c, .int .i64 t, .slice a2 n2 c2]) b := by
  obtain ⟨ys, h⟩ := h; exact h.xcells
theorem BR.set {g : Nat} {w : World} {X N : Nat} {q : Nat → Rat} {b : Rat} (h : BR g w X N q b) {j : Nat} (hj : j < N) {x : Rat} {s t : Int} {a a2 : Option Addr} {n c n2 c2 : Nat}
    (hx : RatioR (PX g X w) w (.agg #[.int .i64 s, .slice a n c, .int .i64 t, .slice a2 n2 c2]) x) :
    BR g ((((w.setCell ⟨g, j * 4, none⟩ (.int .i64 s)).setCell ⟨g, j * 4 + 1, none⟩ (.slice a n c)).setCell ⟨g, j * 4 + 2, none⟩ (.int .i64 t)).setCell ⟨g, j * 4 + 3, none⟩ (.slice a2 n2 c2)) X N (fun i => if i = j then x else q i) b := by
  obtain ⟨ys, h⟩ := h
  exact ⟨_, h.set hj hx _ (by simp) (fun i _ hij => by simp [hij])⟩
theorem BR.setX {g : Nat} {w : World} {X N : Nat} {q : Nat → Rat} {b : Rat} (h : BR g w X N q b) {x : Rat} {s t : Int} {a a2 : Option Addr} {n c n2 c2 : Nat}
    (hx : RatioR (PX g X w) w (.agg #[.int .i64 s, .slice a n c, .int .i64 t, .slice a2 n2 c2]) x) :
    BR g ((((w.setCell ⟨X, 0, none⟩ (.int .i64 s)).setCell ⟨X, 1, none⟩ (.slice a n c)).setCell ⟨X, 2, none⟩ (.int .i64 t)).setCell ⟨X, 3, none⟩ (.slice a2 n2 c2)) X N q x := by
  obtain ⟨ys, h⟩ := h; exact ⟨_, h.setX hx⟩
theorem PX.rowset {g X : Nat} {w : World} (j : Nat) (u0 u1 u2 u3 : Value) {v : Value} {y : Rat} (h : RatioR (PX g X w) w v y) :
    RatioR (PX g X ((((w.setCell ⟨g, j * 4, none⟩ u0).setCell ⟨g, j * 4 + 1, none⟩ u1).setCell ⟨g, j * 4 + 2, none⟩ u2).setCell ⟨g, j * 4 + 3, none⟩ u3)) ((((w.setCell ⟨g, j * 4, none⟩ u0).setCell ⟨g, j * 4 + 1, none⟩ u1).setCell ⟨g, j * 4 + 2, none⟩ u2).setCell ⟨g, j * 4 + 3, none⟩ u3) v y := by
  refine (h.kept (by simp) (fun k hk => ?_)).mono (fun c hc => ⟨hc.1, by simpa using hc.2.1, hc.2.2⟩)
  have hk1 : k ≠ g := by have := hk.1; omega
  rw [Go.Deep.blk_setCell_other _ _ _ _ hk1, Go.Deep.blk_setCell_other _ _ _ _ hk1, Go.Deep.blk_setCell_other _ _ _ _ hk1, Go.Deep.blk_setCell_other _ _ _ _ hk1]
theorem below_row {B g : Nat} {x w : World} (h : Below B x w) (hg : B ≤ g) (j : Nat) (u0 u1 u2 u3 : Value) : Below B x ((((w.setCell ⟨g, j * 4, none⟩ u0).setCell ⟨g, j * 4 + 1, none⟩ u1).setCell ⟨g, j * 4 + 2, none⟩ u2).setCell ⟨g, j * 4 + 3, none⟩ u3) :=
  (((h.setCell hg _).setCell hg _).setCell hg _).setCell hg _
theorem below_X {B g : Nat} {x w : World} (h : Below B x w) (hg : B ≤ g) (u0 u1 u2 u3 : Value) : Below B x ((((w.setCell ⟨g, 0, none⟩ u0).setCell ⟨g, 1, none⟩ u1).setCell ⟨g, 2, none⟩ u2).setCell ⟨g, 3, none⟩ u3) :=
  (((h.setCell hg _).setCell hg _).setCell hg _).setCell hg _
theorem dmat_0 (s e : List Int) (n : Nat) (g : Bool) (k : Nat) (hk : k < n + 1) : dmat s e n g 0 k = if k = 0 then 1 else 0 := by
  unfold dmat drow
  rw [if_pos rfl]
  by_cases h : k = 0
  · rw [if_pos (.inl h), if_pos h]; rfl
  · rw [if_neg (by omega), if_neg h]; rfl
theorem dmat_e (s e : List Int) (n : Nat) (h0 : n ≠ 0) (k : Nat) : dmat s e n true n k = if k = n then 1 else 0 := by
  unfold dmat drow
  rw [if_neg h0, if_pos ⟨rfl, rfl⟩]
  by_cases h : k = n
  · rw [if_pos h, if_pos h]; rfl
  · rw [if_neg h, if_neg h]; rfl
end Go.Proofs.YtbjgklifmillgaaGreat
