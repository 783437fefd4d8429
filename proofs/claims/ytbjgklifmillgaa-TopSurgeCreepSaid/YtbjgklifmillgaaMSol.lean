import Derived.Maps.AppendAt
import Derived.Test.YtbjgklifmillgaaMLb
import Derived.Test.YtbjgklifmillgaaRat3
/- Linear equations over quotients, solved column by column. No program in sight. -/
namespace Go.Proofs.Ytbjgklifmillgaa
set_option linter.unusedVariables false

def rsum (f : Nat → Rat) : Nat → Rat
  | 0 => 0
  | n + 1 => rsum f n + f n
theorem rsum_congr {f g : Nat → Rat} : ∀ n, (∀ k, k < n → f k = g k) → rsum f n = rsum g n
  | 0, _ => rfl
  | n + 1, h => by simp only [rsum]; rw [rsum_congr n (fun k hk => h k (by omega)), h n (by omega)]
theorem rsum_lin {f g : Nat → Rat} (b : Rat) : ∀ n, rsum (fun k => f k - b * g k) n = rsum f n - b * rsum g n
  | 0 => by simp only [rsum]; grind
  | n + 1 => by simp only [rsum]; rw [rsum_lin b n]; grind
theorem rsum_zero {f : Nat → Rat} : ∀ n, (∀ k, k < n → f k = 0) → rsum f n = 0
  | 0, _ => rfl
  | n + 1, h => by simp only [rsum]; rw [rsum_zero n (fun k hk => h k (by omega)), h n (by omega)]; grind
theorem rsum_one {f : Nat → Rat} (c : Nat) : ∀ n, c < n → (∀ k, k < n → k ≠ c → f k = 0) → rsum f n = f c
  | 0, hc, _ => by omega
  | n + 1, hc, h => by
    simp only [rsum]
    by_cases hn : c = n
    · subst hn; rw [rsum_zero c (fun k hk => h k (by omega) (by omega))]; grind
    · rw [rsum_one c n (by omega) (fun k hk => h k (by omega)), h n (by omega) (fun h => hn h.symm)]; grind
theorem rsum_two {f : Nat → Rat} (c d : Nat) : ∀ n, c < n → d < n → c ≠ d → (∀ k, k < n → k ≠ c → k ≠ d → f k = 0) → rsum f n = f c + f d
  | 0, hc, _, _, _ => by omega
  | n + 1, hc, hd, hcd, h => by
    simp only [rsum]
    by_cases hn : c = n
    · subst hn; rw [rsum_one d c (by omega) (fun k hk hk2 => h k (by omega) (by omega) hk2)]; grind
    · by_cases hm : d = n
      · subst hm; rw [rsum_one c d (by omega) (fun k hk hk2 => h k (by omega) hk2 (by omega))]
      · rw [rsum_two c d n (by omega) (by omega) hcd (fun k hk => h k (by omega)), h n (by omega) (fun h => hn h.symm) (fun h => hm h.symm)]; grind
/-- x solves the equations of M with t times the right side. -/
def Sol (n : Nat) (M : Nat → Nat → Rat) (t : Rat) (x : Nat → Rat) : Prop := ∀ i, i < n → rsum (fun k => M i k * x k) n = t * M i n
/-- The first c columns are cleared. -/
structure Clr (n c : Nat) (M : Nat → Nat → Rat) : Prop where
  z : ∀ i k, i < n → k < c → i ≠ k → M i k = 0
  d : ∀ k, k < c → M k k ≠ 0
/-- The equations have no other solution. -/
def Only (n : Nat) (A : Nat → Nat → Rat) : Prop := ∀ x, Sol n A 0 x → ∀ k, k < n → x k = 0
structure Eqv (n : Nat) (A M : Nat → Nat → Rat) : Prop where
  p : ∀ t x, Sol n A t x ↔ Sol n M t x
theorem Eqv.refl (n : Nat) (A : Nat → Nat → Rat) : Eqv n A A := ⟨fun _ _ => Iff.rfl⟩
theorem Eqv.trans {n : Nat} {A B C : Nat → Nat → Rat} (h : Eqv n A B) (k : Eqv n B C) : Eqv n A C := ⟨fun t x => (h.p t x).trans (k.p t x)⟩
/-- There is a row for the next column. -/
theorem pivot {n c : Nat} {A M : Nat → Nat → Rat} (hc : c < n) (h : Eqv n A M) (k : Clr n c M) (o : Only n A) : ¬ (∀ i, c ≤ i → i < n → M i c = 0) := by
  intro hz
  have h1 : Sol n M 0 (fun j => if j = c then 1 else if j < c then - M j c / M j j else 0) := by
    intro i hi
    rw [Rat.zero_mul]
    by_cases hic : i < c
    · rw [rsum_two i c n hi hc (by omega)]
      · have := k.d i hic
        simp only [if_pos, hic, if_neg (show ¬ i = c by omega)]
        grind
      · intro j hj hji hjc
        by_cases hjc2 : j < c
        · rw [k.z i j hi hjc2 (fun h => hji h.symm)]; grind
        · simp only [if_neg hjc, if_neg hjc2]; grind
    · refine rsum_zero n (fun j hj => ?_)
      by_cases hjc : j = c
      · subst hjc; rw [hz i (by omega) hi]; grind
      · by_cases hjc2 : j < c
        · rw [k.z i j hi hjc2 (by omega)]; grind
        · simp only [if_neg hjc, if_neg hjc2]; grind
  have h2 := o _ ((h.p 0 _).2 h1) c hc
  simp at h2
/-- Two rows exchanged. -/
def swp (M : Nat → Nat → Rat) (a b : Nat) : Nat → Nat → Rat := fun i => if i = a then M b else if i = b then M a else M i
theorem swp_eqv {n a b : Nat} {M : Nat → Nat → Rat} (ha : a < n) (hb : b < n) : Eqv n M (swp M a b) := by
  refine ⟨fun t x => ⟨fun h i hi => ?_, fun h i hi => ?_⟩⟩
  · unfold swp
    by_cases h1 : i = a
    · simp only [if_pos h1]; exact h b hb
    · by_cases h2 : i = b
      · simp only [if_neg h1, if_pos h2]; exact h a ha
      · simp only [if_neg h1, if_neg h2]; exact h i hi
  · by_cases h1 : i = a
    · have := h b hb
      unfold swp at this
      by_cases hab : b = a
      · subst hab; subst h1; simpa using this
      · subst h1; simpa [hab] using this
    · by_cases h2 : i = b
      · have := h a ha
        unfold swp at this
        subst h2; simpa using this
      · have := h i hi
        unfold swp at this
        simpa [h1, h2] using this
theorem swp_clr {n c a : Nat} {M : Nat → Nat → Rat} (ha : c ≤ a) (han : a < n) (k : Clr n c M) : Clr n c (swp M c a) := by
  refine ⟨fun i j hi hj hij => ?_, fun j hj => ?_⟩
  · unfold swp
    by_cases h1 : i = c
    · simp only [if_pos h1]; exact k.z a j han hj (by omega)
    · by_cases h2 : i = a
      · simp only [if_neg h1, if_pos h2]; exact k.z c j (by omega) hj (by omega)
      · simp only [if_neg h1, if_neg h2]; exact k.z i j hi hj hij
  · unfold swp
    simp only [if_neg (show ¬ j = c by omega), if_neg (show ¬ j = a by omega)]
    exact k.d j hj
/-- A multiple of a row taken from another one, from column c to column k - 1. -/
def elim (M : Nat → Nat → Rat) (i c k : Nat) (b : Rat) : Nat → Nat → Rat := fun r j => if r = i ∧ c ≤ j ∧ j < k then M r j - b * M c j else M r j
theorem elim_none (M : Nat → Nat → Rat) (i c : Nat) (b : Rat) : elim M i c c b = M := by
  funext r j
  unfold elim
  rw [if_neg (by omega)]
theorem elim_whole {n c : Nat} {M : Nat → Nat → Rat} (k : Clr n c M) {i : Nat} {b : Rat} (hi : i < n) (hc : c < n) (hne : i ≠ c) (r j : Nat) (hr : r < n) (hj : j < n + 1) : elim M i c (n + 1) b r j = if r = i then M i j - b * M c j else M r j := by
  unfold elim
  by_cases h1 : r = i
  · subst h1
    by_cases h2 : c ≤ j
    · rw [if_pos ⟨rfl, h2, hj⟩, if_pos rfl]
    · rw [if_neg (by omega), if_pos rfl, k.z c j hc (by omega) (by omega)]; grind
  · rw [if_neg (by omega), if_neg h1]
theorem elim_eqv {n c : Nat} {M : Nat → Nat → Rat} (k : Clr n c M) {i : Nat} {b : Rat} (hi : i < n) (hc : c < n) (hne : i ≠ c) : Eqv n M (elim M i c (n + 1) b) := by
  have hw := elim_whole k (b := b) hi hc hne
  have hrow : ∀ (x : Nat → Rat), rsum (fun j => elim M i c (n + 1) b i j * x j) n = rsum (fun j => M i j * x j) n - b * rsum (fun j => M c j * x j) n := by
    intro x
    rw [← rsum_lin]
    refine rsum_congr n (fun j hj => ?_)
    rw [hw i j hi (by omega), if_pos rfl]; grind
  have hoth : ∀ r, r < n → r ≠ i → ∀ (x : Nat → Rat), rsum (fun j => elim M i c (n + 1) b r j * x j) n = rsum (fun j => M r j * x j) n := by
    intro r hr hri x
    refine rsum_congr n (fun j hj => ?_)
    rw [hw r j hr (by omega), if_neg hri]
  refine ⟨fun t x => ⟨fun h r hr => ?_, fun h r hr => ?_⟩⟩
  · by_cases hri : r = i
    · subst hri
      rw [hrow, h r hr, h c hc, hw r n hr (by omega), if_pos rfl]; grind
    · rw [hoth r hr hri, h r hr, hw r n hr (by omega), if_neg hri]
  · by_cases hri : r = i
    · subst hri
      have h1 := h r hr
      have h2 := h c hc
      rw [hrow, hw r n hr (by omega), if_pos rfl] at h1
      rw [hoth c hc (fun h => hne h.symm), hw c n hc (by omega), if_neg (fun h => hne h.symm)] at h2
      rw [h2] at h1
      grind
    · have h1 := h r hr
      rw [hoth r hr hri, hw r n hr (by omega), if_neg hri] at h1
      exact h1
theorem elim_clr {n c : Nat} {M : Nat → Nat → Rat} (k : Clr n c M) {i : Nat} {b : Rat} (hi : i < n) (hc : c < n) (hne : i ≠ c) : Clr n c (elim M i c (n + 1) b) := by
  have hw := elim_whole k (b := b) hi hc hne
  refine ⟨fun r j hr hj hrj => ?_, fun j hj => ?_⟩
  · rw [hw r j hr (by omega)]
    split
    · subst r; rw [k.z i j hi hj hrj, k.z c j hc hj (by omega)]; grind
    · exact k.z r j hr hj hrj
  · rw [hw j j (by omega) (by omega)]
    split
    · subst i; rw [k.z c j hc hj (by omega)]; have := k.d j hj; grind
    · exact k.d j hj
/-- Column c is cleared in the rows below r. -/
def Part (c r : Nat) (M : Nat → Nat → Rat) : Prop := M c c ≠ 0 ∧ ∀ i, i < r → i ≠ c → M i c = 0
theorem Part.next {n c : Nat} {M : Nat → Nat → Rat} (k : Clr n c M) (hc : c < n) (h : Part c n M) : Clr n (c + 1) M := by
  refine ⟨fun r j hr hj hrj => ?_, fun j hj => ?_⟩
  · by_cases hjc : j = c
    · subst hjc; exact h.2 r hr hrj
    · exact k.z r j hr (by omega) hrj
  · by_cases hjc : j = c
    · subst hjc; exact h.1
    · exact k.d j (by omega)
theorem Part.skip {c r : Nat} {M : Nat → Nat → Rat} (h : Part c r M) (h0 : r = c ∨ M r c = 0) : Part c (r + 1) M := by
  refine ⟨h.1, fun i hi hic => ?_⟩
  by_cases hir : i = r
  · subst hir
    rcases h0 with h0 | h0
    · exact absurd h0 hic
    · exact h0
  · exact h.2 i (by omega) hic
theorem Part.elim {n c r : Nat} {M : Nat → Nat → Rat} (k : Clr n c M) (hc : c < n) (hr : r < n) (hne : r ≠ c) (h : Part c r M) : Part c (r + 1) (elim M r c (n + 1) (M r c / M c c)) := by
  have hw := elim_whole k (b := M r c / M c c) hr hc hne
  refine ⟨?_, fun i hi hic => ?_⟩
  · rw [hw c c hc (by omega), if_neg (fun h => hne h.symm)]; exact h.1
  · rw [hw i c (by omega) (by omega)]
    split
    · have := h.1; grind
    · exact h.2 i (by omega) hic
/-- The end: the quotients solve the equations. -/
theorem solved {n : Nat} {A M : Nat → Nat → Rat} (h : Eqv n A M) (k : Clr n n M) : Sol n A 1 (fun c => M c n / M c c) := by
  rw [h.p]
  intro i hi
  rw [rsum_one i n hi (fun j hj hji => by rw [k.z i j hi hj (fun h => hji h.symm)]; grind)]
  have := k.d i hi
  grind
theorem Only.eq {n : Nat} {A : Nat → Nat → Rat} (o : Only n A) {x y : Nat → Rat} (hx : Sol n A 1 x) (hy : Sol n A 1 y) : ∀ k, k < n → x k = y k := by
  intro k hk
  have h : Sol n A 0 (fun k => x k - 1 * y k) := by
    intro i hi
    have h1 := hx i hi
    have h2 := hy i hi
    have h3 := rsum_lin (f := fun k => A i k * x k) (g := fun k => A i k * y k) 1 n
    rw [h1, h2] at h3
    rw [rsum_congr (g := fun k => A i k * x k - 1 * (A i k * y k)) n (fun j hj => by grind), h3]
    grind
  have := o _ h k hk
  grind
end Go.Proofs.Ytbjgklifmillgaa

/- A matrix of ratios in memory. -/
namespace Go.Proofs.Ytbjgklifmillgaa
open Go.RowKit
set_option linter.unusedVariables false

/-- Four cells from 'o' on hold a ratio. -/
def EntR (p : Nat → Prop) (w : World) (b o : Nat) (q : Rat) : Prop := ∃ (s : Int) (a : Option Addr) (n c : Nat) (t : Int) (a2 : Option Addr) (n2 c2 : Nat),
  w.cell? ⟨b, o, none⟩ = some (.int .i64 s) ∧ w.cell? ⟨b, o + 1, none⟩ = some (.slice a n c) ∧ w.cell? ⟨b, o + 2, none⟩ = some (.int .i64 t) ∧ w.cell? ⟨b, o + 3, none⟩ = some (.slice a2 n2 c2)
  ∧ RatioR p w (.agg #[.int .i64 s, .slice a n c, .int .i64 t, .slice a2 n2 c2]) q
theorem EntR.below {p : Nat → Prop} {w w' : World} {b o : Nat} {q : Rat} (h : EntR p w b o q) (hlt : b < w.heap.size) (hb : Below w.heap.size w w') : EntR p w' b o q := by
  obtain ⟨s, a, n, c, t, a2, n2, c2, h0, h1, h2, h3, h4⟩ := h
  refine ⟨s, a, n, c, t, a2, n2, c2, ?_, ?_, ?_, ?_, h4.below hb⟩ <;> (rw [hb.cell (by simpa using hlt)]; assumption)
/-- The matrix: block b0 holds the rows' slices, block r i the entries of row i. -/
structure MatR (lo hi : Nat) (w : World) (b0 n : Nat) (r c : Nat → Nat) (M : Nat → Nat → Rat) : Prop where
  top : ∀ i, i < n → w.cell? ⟨b0, i, none⟩ = some (.slice (some ⟨r i, 0, none⟩) (n + 1) (c i))
  ftop : ∀ i, i < n → w.frozen? ⟨b0, i, none⟩ = false
  row : ∀ i, i < n → lo ≤ r i ∧ r i < hi ∧ r i ≠ b0
  inj : ∀ i j, i < n → j < n → r i = r j → i = j
  ent : ∀ i j, i < n → j < n + 1 → EntR (fun b => b < lo ∨ hi ≤ b) w (r i) (4 * j) (M i j)
  frz : ∀ i j, i < n → j < 4 * (n + 1) → w.frozen? ⟨r i, j, none⟩ = false
  own : lo ≤ b0 ∧ b0 < hi ∧ hi ≤ w.heap.size
theorem MatR.below {lo hi : Nat} {w w' : World} {b0 n : Nat} {r c : Nat → Nat} {M : Nat → Nat → Rat} (h : MatR lo hi w b0 n r c M) (hb : Below w.heap.size w w') : MatR lo hi w' b0 n r c M := by
  have ho := h.own
  have hs := hb.size
  refine ⟨fun i hi2 => ?_, fun i hi2 => ?_, h.row, h.inj, fun i j hi2 hj => (h.ent i j hi2 hj).below (by have := h.row i hi2; omega) hb, fun i j hi2 hj => ?_, ⟨ho.1, ho.2.1, by omega⟩⟩
  · rw [hb.cell (by simp; omega)]; exact h.top i hi2
  · rw [frozenB hb _ _ (by have := h.row i hi2; simp; omega)]; exact h.ftop i hi2
  · rw [frozenB hb _ _ (by have := h.row i hi2; simp; omega)]; exact h.frz i j hi2 hj
theorem cell_of_block {w w' : World} {b o : Nat} (h : w'.heap[b]? = w.heap[b]?) : w'.cell? ⟨b, o, none⟩ = w.cell? ⟨b, o, none⟩ := by
  unfold World.cell?; rw [h]
/-- One entry changed. -/
def upd (M : Nat → Nat → Rat) (i k : Nat) (q : Rat) : Nat → Nat → Rat := fun r j => if r = i ∧ j = k then q else M r j
theorem MatR.put {lo hi : Nat} {w w' : World} {b0 n : Nat} {r c : Nat → Nat} {M : Nat → Nat → Rat} (h : MatR lo hi w b0 n r c M) {i k : Nat} (hi' : i < n) (hk : k < n + 1) {q : Rat}
    {s : Int} {a : Option Addr} {m d : Nat} {t : Int} {a2 : Option Addr} {m2 d2 : Nat}
    (hq : RatioR (fun b => b < lo ∨ hi ≤ b) w (.agg #[.int .i64 s, .slice a m d, .int .i64 t, .slice a2 m2 d2]) q)
    (hs : w'.heap.size = w.heap.size) (hf : ∀ x, w'.frozen? x = w.frozen? x) (ho : ∀ b, b ≠ r i → w'.heap[b]? = w.heap[b]?)
    (hc : ∀ o, o < 4 * k ∨ 4 * k + 4 ≤ o → w'.cell? ⟨r i, o, none⟩ = w.cell? ⟨r i, o, none⟩)
    (h0 : w'.cell? ⟨r i, 4 * k, none⟩ = some (.int .i64 s)) (h1 : w'.cell? ⟨r i, 4 * k + 1, none⟩ = some (.slice a m d)) (h2 : w'.cell? ⟨r i, 4 * k + 2, none⟩ = some (.int .i64 t)) (h3 : w'.cell? ⟨r i, 4 * k + 3, none⟩ = some (.slice a2 m2 d2)) :
    MatR lo hi w' b0 n r c (upd M i k q) := by
  have hri := h.row i hi'
  have hkept : ∀ {v : Value} {x : Rat}, RatioR (fun b => b < lo ∨ hi ≤ b) w v x → RatioR (fun b => b < lo ∨ hi ≤ b) w' v x :=
    fun hx => hx.kept (by omega) (fun b hb => ho b (by omega))
  refine ⟨fun j hj => ?_, fun j hj => ?_, h.row, h.inj, fun j l hj hl => ?_, fun j l hj hl => ?_, ?_⟩
  · rw [cell_of_block (ho b0 (Ne.symm hri.2.2))]; exact h.top j hj
  · rw [hf]; exact h.ftop j hj
  · unfold upd
    by_cases hji : j = i
    · subst hji
      by_cases hlk : l = k
      · subst hlk
        rw [if_pos ⟨rfl, rfl⟩]
        exact ⟨s, a, m, d, t, a2, m2, d2, h0, h1, h2, h3, hkept hq⟩
      · rw [if_neg (by omega)]
        obtain ⟨s', a', m', d', t', a2', m2', d2', g0, g1, g2, g3, g4⟩ := h.ent j l hj hl
        exact ⟨s', a', m', d', t', a2', m2', d2', by rw [hc _ (by omega)]; exact g0, by rw [hc _ (by omega)]; exact g1, by rw [hc _ (by omega)]; exact g2, by rw [hc _ (by omega)]; exact g3, hkept g4⟩
    · rw [if_neg (by omega)]
      have hne : r j ≠ r i := fun hh => hji (h.inj j i hj hi' hh)
      obtain ⟨s', a', m', d', t', a2', m2', d2', g0, g1, g2, g3, g4⟩ := h.ent j l hj hl
      exact ⟨s', a', m', d', t', a2', m2', d2', by rw [cell_of_block (ho _ hne)]; exact g0, by rw [cell_of_block (ho _ hne)]; exact g1, by rw [cell_of_block (ho _ hne)]; exact g2, by rw [cell_of_block (ho _ hne)]; exact g3, hkept g4⟩
  · rw [hf]; exact h.frz j l hj hl
  · have := h.own; omega
theorem set4 (w : World) (b o : Nat) (u0 u1 u2 u3 : Value) {v0 v1 v2 v3 : Value} (h0 : w.cell? ⟨b, o, none⟩ = some v0) (h1 : w.cell? ⟨b, o + 1, none⟩ = some v1) (h2 : w.cell? ⟨b, o + 2, none⟩ = some v2) (h3 : w.cell? ⟨b, o + 3, none⟩ = some v3) :
    ∀ w', w' = ((((w.setCell ⟨b, o, none⟩ u0).setCell ⟨b, o + 1, none⟩ u1).setCell ⟨b, o + 2, none⟩ u2).setCell ⟨b, o + 3, none⟩ u3) →
    w'.heap.size = w.heap.size ∧ (∀ x, w'.frozen? x = w.frozen? x) ∧ (∀ k, k ≠ b → w'.heap[k]? = w.heap[k]?) ∧ (∀ k, k < o ∨ o + 4 ≤ k → w'.cell? ⟨b, k, none⟩ = w.cell? ⟨b, k, none⟩)
    ∧ w'.cell? ⟨b, o, none⟩ = some u0 ∧ w'.cell? ⟨b, o + 1, none⟩ = some u1 ∧ w'.cell? ⟨b, o + 2, none⟩ = some u2 ∧ w'.cell? ⟨b, o + 3, none⟩ = some u3 := by
  rintro w' rfl
  have e : ∀ x y : Nat, x ≠ y → (⟨b, x, none⟩ : Addr) ≠ ⟨b, y, none⟩ := fun x y h hh => h (Addr.mk.inj hh).2.1
  refine ⟨by simp, fun x => by simp, fun k hk => ?_, fun k hk => ?_, ?_, ?_, ?_, ?_⟩
  · rw [Go.Deep.blk_setCell_other _ _ _ _ hk, Go.Deep.blk_setCell_other _ _ _ _ hk, Go.Deep.blk_setCell_other _ _ _ _ hk, Go.Deep.blk_setCell_other _ _ _ _ hk]
  · rw [World.cell?_setCell_other _ _ _ _ (e _ _ (by omega)), World.cell?_setCell_other _ _ _ _ (e _ _ (by omega)), World.cell?_setCell_other _ _ _ _ (e _ _ (by omega)), World.cell?_setCell_other _ _ _ _ (e _ _ (by omega))]
  · rw [World.cell?_setCell_other _ _ _ _ (e _ _ (by omega)), World.cell?_setCell_other _ _ _ _ (e _ _ (by omega)), World.cell?_setCell_other _ _ _ _ (e _ _ (by omega)), World.cell?_setCell_same _ _ _ h0]
  · rw [World.cell?_setCell_other _ _ _ _ (e _ _ (by omega)), World.cell?_setCell_other _ _ _ _ (e _ _ (by omega))]
    exact World.cell?_setCell_same _ _ _ (u := v1) (by rw [World.cell?_setCell_other _ _ _ _ (e _ _ (by omega))]; exact h1)
  · rw [World.cell?_setCell_other _ _ _ _ (e _ _ (by omega))]
    exact World.cell?_setCell_same _ _ _ (u := v2) (by rw [World.cell?_setCell_other _ _ _ _ (e _ _ (by omega)), World.cell?_setCell_other _ _ _ _ (e _ _ (by omega))]; exact h2)
  · exact World.cell?_setCell_same _ _ _ (u := v3) (by rw [World.cell?_setCell_other _ _ _ _ (e _ _ (by omega)), World.cell?_setCell_other _ _ _ _ (e _ _ (by omega)), World.cell?_setCell_other _ _ _ _ (e _ _ (by omega))]; exact h3)
/-- An entry stored. -/
theorem MatR.set {lo hi : Nat} {w : World} {b0 n : Nat} {r c : Nat → Nat} {M : Nat → Nat → Rat} (h : MatR lo hi w b0 n r c M) {i k : Nat} (hi' : i < n) (hk : k < n + 1) {q : Rat}
    {s : Int} {a : Option Addr} {m d : Nat} {t : Int} {a2 : Option Addr} {m2 d2 : Nat}
    (hq : RatioR (fun b => b < lo ∨ hi ≤ b) w (.agg #[.int .i64 s, .slice a m d, .int .i64 t, .slice a2 m2 d2]) q) :
    MatR lo hi ((((w.setCell ⟨r i, 4 * k, none⟩ (.int .i64 s)).setCell ⟨r i, 4 * k + 1, none⟩ (.slice a m d)).setCell ⟨r i, 4 * k + 2, none⟩ (.int .i64 t)).setCell ⟨r i, 4 * k + 3, none⟩ (.slice a2 m2 d2)) b0 n r c (upd M i k q) := by
  obtain ⟨s', a', m', d', t', a2', m2', d2', g0, g1, g2, g3, g4⟩ := h.ent i k hi' hk
  obtain ⟨x1, x2, x3, x4, x5, x6, x7, x8⟩ := set4 w (r i) (4 * k) (.int .i64 s) (.slice a m d) (.int .i64 t) (.slice a2 m2 d2) g0 g1 g2 g3 _ rfl
  exact h.put hi' hk hq x1 x2 x3 x4 x5 x6 x7 x8
theorem elim_step (M : Nat → Nat → Rat) {i c k : Nat} (b : Rat) (hc : c ≤ k) : upd (elim M i c k b) i k (M i k - b * M c k) = elim M i c (k + 1) b := by
  funext r j
  unfold upd elim
  by_cases h1 : r = i ∧ j = k
  · obtain ⟨rfl, rfl⟩ := h1
    rw [if_pos ⟨rfl, rfl⟩, if_pos ⟨rfl, hc, by omega⟩]
  · rw [if_neg h1]
    by_cases h2 : r = i ∧ c ≤ j ∧ j < k
    · rw [if_pos h2, if_pos ⟨h2.1, h2.2.1, by omega⟩]
    · rw [if_neg h2, if_neg (by omega)]
theorem elim_own (M : Nat → Nat → Rat) (i c k : Nat) (b : Rat) : elim M i c k b i k = M i k := by unfold elim; rw [if_neg (by omega)]
theorem elim_other (M : Nat → Nat → Rat) {i c k r : Nat} (b : Rat) (j : Nat) (h : r ≠ i) : elim M i c k b r j = M r j := by unfold elim; rw [if_neg (by omega)]
/-- Two numbers exchanged. -/
def sw (i k j : Nat) : Nat := if j = i then k else if j = k then i else j
theorem sw_lt {i k j n : Nat} (hi : i < n) (hk : k < n) (hj : j < n) : sw i k j < n := by unfold sw; split <;> (try split) <;> omega
theorem sw_inj {i k j l : Nat} (h : sw i k j = sw i k l) : j = l := by
  unfold sw at h
  by_cases h2 : j = i <;> by_cases h3 : j = k <;> by_cases h4 : l = i <;> by_cases h5 : l = k <;> simp only [h2, h3, h4, h5, if_true, if_false] at h <;> (first | omega | (split at h <;> omega) | (split at h <;> split at h <;> omega))
theorem swp_sw (M : Nat → Nat → Rat) (i k j : Nat) : swp M i k j = M (sw i k j) := by
  unfold swp sw; split <;> (try split) <;> rfl
/-- Two rows exchanged. -/
theorem MatR.swap {lo hi : Nat} {w w' : World} {b0 n : Nat} {r c : Nat → Nat} {M : Nat → Nat → Rat} (h : MatR lo hi w b0 n r c M) {i k : Nat} (hi' : i < n) (hk : k < n)
    (hs : w'.heap.size = w.heap.size) (hf : ∀ x, w'.frozen? x = w.frozen? x) (ho : ∀ b, b ≠ b0 → w'.heap[b]? = w.heap[b]?)
    (h0 : w'.cell? ⟨b0, i, none⟩ = some (.slice (some ⟨r k, 0, none⟩) (n + 1) (c k))) (h1 : w'.cell? ⟨b0, k, none⟩ = some (.slice (some ⟨r i, 0, none⟩) (n + 1) (c i)))
    (hc : ∀ o, o ≠ i → o ≠ k → w'.cell? ⟨b0, o, none⟩ = w.cell? ⟨b0, o, none⟩) :
    MatR lo hi w' b0 n (fun j => r (sw i k j)) (fun j => c (sw i k j)) (swp M i k) := by
  have hkept : ∀ {v : Value} {x : Rat}, RatioR (fun b => b < lo ∨ hi ≤ b) w v x → RatioR (fun b => b < lo ∨ hi ≤ b) w' v x :=
    fun hx => hx.kept (by omega) (fun b hb => ho b (by have := h.own; omega))
  have hent : ∀ j l, j < n → l < n + 1 → EntR (fun b => b < lo ∨ hi ≤ b) w' (r j) (4 * l) (M j l) := by
    intro j l hj hl
    have hne := (h.row j hj).2.2
    obtain ⟨s', a', m', d', t', a2', m2', d2', g0, g1, g2, g3, g4⟩ := h.ent j l hj hl
    exact ⟨s', a', m', d', t', a2', m2', d2', by rw [cell_of_block (ho _ hne)]; exact g0, by rw [cell_of_block (ho _ hne)]; exact g1, by rw [cell_of_block (ho _ hne)]; exact g2, by rw [cell_of_block (ho _ hne)]; exact g3, hkept g4⟩
  refine ⟨fun j hj => ?_, fun j hj => ?_, fun j hj => h.row _ (sw_lt hi' hk hj), fun j l hj hl hh => sw_inj (h.inj _ _ (sw_lt hi' hk hj) (sw_lt hi' hk hl) hh), fun j l hj hl => ?_, fun j l hj hl => ?_, ?_⟩
  · by_cases h2 : j = i
    · subst h2; simp only [sw, if_pos]; exact h0
    · by_cases h3 : j = k
      · subst h3; simp only [sw, if_neg h2, if_pos]; exact h1
      · simp only [sw, if_neg h2, if_neg h3]; rw [hc j h2 h3]; exact h.top j hj
  · rw [hf]; exact h.ftop j hj
  · rw [swp_sw]; exact hent _ l (sw_lt hi' hk hj) hl
  · rw [hf]; exact h.frz _ l (sw_lt hi' hk hj) hl
  · have := h.own; omega
end Go.Proofs.Ytbjgklifmillgaa

/- Rows of ratios: as an argument, and as they are copied. -/
namespace Go.Proofs.Ytbjgklifmillgaa
open Go.RowKit
set_option linter.unusedVariables false

/-- Four cells of a list hold a ratio. -/
def EntL (p : Nat → Prop) (w : World) (ys : List Value) (j : Nat) (q : Rat) : Prop := ∃ (s : Int) (a : Option Addr) (n c : Nat) (t : Int) (a2 : Option Addr) (n2 c2 : Nat),
  ys[4 * j]? = some (.int .i64 s) ∧ ys[4 * j + 1]? = some (.slice a n c) ∧ ys[4 * j + 2]? = some (.int .i64 t) ∧ ys[4 * j + 3]? = some (.slice a2 n2 c2)
  ∧ RatioR p w (.agg #[.int .i64 s, .slice a n c, .int .i64 t, .slice a2 n2 c2]) q
theorem EntL.below {p : Nat → Prop} {w w' : World} {ys : List Value} {j : Nat} {q : Rat} (h : EntL p w ys j q) (hb : Below w.heap.size w w') : EntL p w' ys j q := by
  obtain ⟨s, a, n, c, t, a2, n2, c2, h0, h1, h2, h3, h4⟩ := h
  exact ⟨s, a, n, c, t, a2, n2, c2, h0, h1, h2, h3, h4.below hb⟩
theorem EntL.mono {p p' : Nat → Prop} {w : World} {ys : List Value} {j : Nat} {q : Rat} (h : EntL p w ys j q) (hp : ∀ b, p b → p' b) : EntL p' w ys j q := by
  obtain ⟨s, a, n, c, t, a2, n2, c2, h0, h1, h2, h3, h4⟩ := h
  exact ⟨s, a, n, c, t, a2, n2, c2, h0, h1, h2, h3, h4.mono hp⟩
theorem EntR.mono {p p' : Nat → Prop} {w : World} {b o : Nat} {q : Rat} (h : EntR p w b o q) (hp : ∀ b, p b → p' b) : EntR p' w b o q := by
  obtain ⟨s, a, n, c, t, a2, n2, c2, h0, h1, h2, h3, h4⟩ := h
  exact ⟨s, a, n, c, t, a2, n2, c2, h0, h1, h2, h3, h4.mono hp⟩
theorem EntR.kept {p : Nat → Prop} {w w' : World} {b o : Nat} {q : Rat} (h : EntR p w b o q) (hs : w.heap.size ≤ w'.heap.size) (hr : w'.heap[b]? = w.heap[b]?) (hb : ∀ b, p b → w'.heap[b]? = w.heap[b]?) : EntR p w' b o q := by
  obtain ⟨s, a, n, c, t, a2, n2, c2, h0, h1, h2, h3, h4⟩ := h
  refine ⟨s, a, n, c, t, a2, n2, c2, ?_, ?_, ?_, ?_, h4.kept hs hb⟩ <;> (rw [cell_of_block hr]; assumption)
/-- Rows of ratios as an argument. -/
structure RowsR (w : World) (a : Option Addr) (n : Nat) (xs : List Value) (M : Nat → Nat → Rat) : Prop where
  sl : SlR w a n 1 xs
  row : ∀ i, i < n → ∃ ra rc ys, xs[i]? = some (.slice ra (n + 1) rc) ∧ SlR w ra (n + 1) 4 ys ∧ (∀ u ∈ ys, u.oneCell' = true) ∧ ∀ j, j < n + 1 → EntL (fun b => b < w.heap.size) w ys j (M i j)
theorem RowsR.below {w w' : World} {a : Option Addr} {n : Nat} {xs : List Value} {M : Nat → Nat → Rat} (h : RowsR w a n xs M) (hb : Below w.heap.size w w') : RowsR w' a n xs M := by
  refine ⟨h.sl.below hb, fun i hi => ?_⟩
  obtain ⟨ra, rc, ys, h1, h2, h3, h4⟩ := h.row i hi
  exact ⟨ra, rc, ys, h1, h2.below hb, h3, fun j hj => ((h4 j hj).below hb).mono (fun b hb2 => Nat.lt_of_lt_of_le hb2 hb.size)⟩
theorem frozen_of_blk {w : World} {b : Nat} {cs : Array Value} {e : TypeId} (h : w.heap[b]? = some (.cells cs e (0, 0))) (o : Nat) : w.frozen? ⟨b, o, none⟩ = false := by
  unfold World.frozen?; simp [h]
end Go.Proofs.Ytbjgklifmillgaa

/- Linear equations over ratios: the states of the walk. -/
namespace Go.Proofs.Ytbjgklifmillgaa
open Go.RowKit
set_option linter.unusedVariables false

theorem infoRatio : (Try.prog.info? 47).map (fun i => (i.zero, i.size, i.bytes)) = some (some (.agg #[.int .i64 0, .slice none 0 0, .int .i64 0, .slice none 0 0]), 4, 64) := by kernel_rfl
/-- 'append(out, x)' with one element of any type. -/
theorem append_g {ops : Array Oper} {rest : List Oper} {o : Oper} {a : Act} {Q : Exit → Act → World → Prop} (w : World) (hgd : o.guard = none) (s x : Operand) (t e : TypeId) (z : Value) (size bytes : Nat)
    (ht : (Try.prog).underlying t = some (.slice e)) (hi : ((Try.prog).info? e).map (fun i => (i.zero, i.size, i.bytes)) = some (some z, size, bytes)) (hzs : z.cells.size = size) (hsz : 0 < size)
    (ho : o.op = .call { callee := .builtin .append, args := #[s, x], argTypes := #[t, t] }) (base n B : Nat) (v : Value) (xs news : List Value) (hs : a.eval s = v)
    (hown : w.ownsRow base e size v n xs) (hx : a.eval x = .slice (some ⟨B, 0, none⟩) 1 1) (hl : news.length = size) (hc : ∀ j u, news[j]? = some u → w.cell? ⟨B, j, none⟩ = some u) (h1 : ∀ u ∈ news, u.oneCell' = true) (hn : n ≤ 100000) (hb : bytes ≤ 1000) (hbase : base ≤ w.heap.size)
    (h : ∀ v' w', w'.ownsRow base e size v' (n + 1) (xs ++ news) → w.grownBy w' v.ownBlock → (v'.ownBlock = v.ownBlock ∨ v'.ownBlock = some w.heap.size) → Below base w w' → wpList Try.prog ops Q rest (a.put o.dst v') w') : wpList Try.prog ops Q (o :: rest) a w := by
  obtain ⟨i, hi1, hi2, hi3, hi4⟩ := info_parts hi
  have hmul : (n + 1) * bytes ≤ 100001 * 1000 := Nat.mul_le_mul (by omega) (by omega)
  refine wpList_append_own_at w hgd s x t ho base e i _ size bytes ht hi1 hi2 hi3 hi4 hzs hsz v n xs hs hown ⟨B, 0, none⟩ 1 1 news hx (by rw [hl, Nat.one_mul]) (fun j u' hu => ?_) h1 (by unfold maxLen; omega) (by omega) hbase
    (fun v' w' h2 h3 _ h5 => h v' w' h2 h3 h5 ((Below.refl base w).grown h3 hbase (fun k hk => (hown.lt k hk).1)))
  rw [Addr.add_lit, Nat.zero_add]
  exact hc j u' hu
def kz (K : Nat) : Nat → Nat
  | 0 => K
  | c + 1 => 4 * kz K c + 1
theorem kz_mono (K : Nat) {c d : Nat} (h : c ≤ d) : kz K c ≤ kz K d := by
  induction d with
  | zero => obtain rfl : c = 0 := by omega
            exact Nat.le_refl _
  | succ d ih =>
    by_cases hc : c = d + 1
    · subst hc; exact Nat.le_refl _
    · have := ih (by omega)
      simp only [kz]; omega
theorem MatR.get {lo hi : Nat} {w : World} {b0 n : Nat} {r c : Nat → Nat} {M : Nat → Nat → Rat} (h : MatR lo hi w b0 n r c M) {i j : Nat} (hi' : i < n) (hj : j < n + 1) : ∃ (s : Int) (a : Option Addr) (m d : Nat) (t : Int) (a2 : Option Addr) (m2 d2 : Nat),
    w.cell? ⟨r i, j * 4, none⟩ = some (.int .i64 s) ∧ w.cell? ⟨r i, j * 4 + 1, none⟩ = some (.slice a m d) ∧ w.cell? ⟨r i, j * 4 + 2, none⟩ = some (.int .i64 t) ∧ w.cell? ⟨r i, j * 4 + 3, none⟩ = some (.slice a2 m2 d2)
    ∧ RatioR (fun b => b < lo ∨ hi ≤ b) w (.agg #[.int .i64 s, .slice a m d, .int .i64 t, .slice a2 m2 d2]) (M i j) := by
  rw [Nat.mul_comm j 4]; exact h.ent i j hi' hj
structure St (lo hi : Nat) (w : World) (b0 n : Nat) (A : Nat → Nat → Rat) (K k : Nat) (M : Nat → Nat → Rat) (r c : Nat → Nat) : Prop where
  mat : MatR lo hi w b0 n r c M
  clr : Clr n k M
  eqv : Eqv n A M
  sz : ∀ i j, i < n → j < n + 1 → Sz (kz K k) (M i j)
/-- Within a column: the rows below i are done. -/
structure St4 (lo hi : Nat) (w : World) (b0 n : Nat) (A : Nat → Nat → Rat) (K k i : Nat) (M : Nat → Nat → Rat) (r c : Nat → Nat) : Prop where
  mat : MatR lo hi w b0 n r c M
  clr : Clr n k M
  eqv : Eqv n A M
  part : Part k i M
  sz : ∀ a j, a < n → j < n + 1 → Sz (if a < i ∧ a ≠ k then 4 * kz K k + 1 else kz K k) (M a j)
theorem St4.skip {lo hi : Nat} {w w' : World} {b0 n : Nat} {A : Nat → Nat → Rat} {K k i : Nat} {M : Nat → Nat → Rat} {r c : Nat → Nat} (h : St4 lo hi w b0 n A K k i M r c) (hb : Below w.heap.size w w') (h0 : i = k ∨ M i k = 0) : St4 lo hi w' b0 n A K k (i + 1) M r c := by
  refine ⟨h.mat.below hb, h.clr, h.eqv, h.part.skip h0, fun a j ha hj => ?_⟩
  refine (h.sz a j ha hj).mono ?_
  split <;> split <;> omega
theorem St4.done {lo hi : Nat} {w w' : World} {b0 n : Nat} {A : Nat → Nat → Rat} {K k i : Nat} {M : Nat → Nat → Rat} {r c : Nat → Nat} (h : St4 lo hi w b0 n A K k i M r c) (hk : k < n) (hi' : i < n) (hne : i ≠ k)
    (hm : MatR lo hi w' b0 n r c (elim M i k (n + 1) (M i k / M k k))) : St4 lo hi w' b0 n A K k (i + 1) (elim M i k (n + 1) (M i k / M k k)) r c := by
  have hw := elim_whole h.clr (b := M i k / M k k) hi' hk hne
  refine ⟨hm, elim_clr h.clr hi' hk hne, h.eqv.trans (elim_eqv h.clr hi' hk hne), Part.elim h.clr hk hi' hne h.part, fun a j ha hj => ?_⟩
  rw [hw a j ha hj]
  have s1 := h.sz a j ha hj
  have s2 := h.sz i j hi' hj
  have s3 := h.sz k j hk hj
  have s4 := h.sz i k hi' (by omega)
  have s5 := h.sz k k hk (by omega)
  rw [if_neg (by omega)] at s2 s3 s4 s5
  by_cases hai : a = i
  · rw [if_pos hai, if_pos (by omega)]
    exact (sz_sub s2 (sz_mul (sz_quot h.part.1 s4 s5) s3)).mono (by omega)
  · rw [if_neg hai]
    refine s1.mono ?_
    split <;> split <;> omega
/-- What is handed out so far. -/
structure Outs (lo : Nat) (w : World) (v : Value) (k : Nat) (x : Nat → Rat) (ys : List Value) : Prop where
  own : w.ownsRow lo 47 4 v k ys
  ent : ∀ j, j < k → EntL (fun b => v.ownBlock ≠ some b ∧ b < w.heap.size) w ys j (x j)
theorem EntL.left {p : Nat → Prop} {w : World} {ys zs : List Value} {j : Nat} {q : Rat} (h : EntL p w ys j q) (hl : 4 * j + 4 ≤ ys.length) : EntL p w (ys ++ zs) j q := by
  obtain ⟨s, a, n, c, t, a2, n2, c2, h0, h1, h2, h3, h4⟩ := h
  exact ⟨s, a, n, c, t, a2, n2, c2, by rw [List.getElem?_append_left (by omega)]; exact h0, by rw [List.getElem?_append_left (by omega)]; exact h1, by rw [List.getElem?_append_left (by omega)]; exact h2, by rw [List.getElem?_append_left (by omega)]; exact h3, h4⟩
theorem EntL.kept {p p' : Nat → Prop} {w w' : World} {ys : List Value} {j : Nat} {q : Rat} (h : EntL p w ys j q) (hs : w.heap.size ≤ w'.heap.size) (hb : ∀ b, p b → w'.heap[b]? = w.heap[b]?) (hp : ∀ b, p b → p' b) : EntL p' w' ys j q := by
  obtain ⟨s, a, n, c, t, a2, n2, c2, h0, h1, h2, h3, h4⟩ := h
  exact ⟨s, a, n, c, t, a2, n2, c2, h0, h1, h2, h3, (h4.kept hs hb).mono hp⟩
theorem Outs.next {lo : Nat} {w w5 w6 w7 : World} {v v7 : Value} {k : Nat} {x : Nat → Rat} {ys : List Value} {s : Int} {a : Option Addr} {n c : Nat} {t : Int} {a2 : Option Addr} {n2 c2 : Nat} (h : Outs lo w v k x ys)
    (hb5 : Below w.heap.size w w5) (hq : RatioR (fun b => w.heap.size ≤ b) w5 (.agg #[.int .i64 s, .slice a n c, .int .i64 t, .slice a2 n2 c2]) (x k)) (hb6 : Below w5.heap.size w5 w6)
    (ho7 : w7.ownsRow lo 47 4 v7 (k + 1) (ys ++ [.int .i64 s, .slice a n c, .int .i64 t, .slice a2 n2 c2])) (hg7 : w6.grownBy w7 v.ownBlock) (hv7 : v7.ownBlock = v.ownBlock ∨ v7.ownBlock = some w6.heap.size) :
    Outs lo w7 v7 (k + 1) x (ys ++ [.int .i64 s, .slice a n c, .int .i64 t, .slice a2 n2 c2]) := by
  have hz5 := hb5.size
  have hz6 := hb6.size
  have hz7 := hg7.size
  have hyl : ys.length = k * 4 := h.own.1
  have hvlt : ∀ z, v.ownBlock = some z → z < w.heap.size := fun z hz => (h.own.lt z hz).2
  refine ⟨ho7, fun j hj => ?_⟩
  by_cases hjk : j = k
  · subst hjk
    have e : ∀ i, (ys ++ [Value.int .i64 s, .slice a n c, .int .i64 t, .slice a2 n2 c2])[4 * j + i]? = [Value.int .i64 s, .slice a n c, .int .i64 t, .slice a2 n2 c2][i]? := fun i => by
      rw [List.getElem?_append_right (by omega), show 4 * j + i - ys.length = i by omega]
    refine ⟨s, a, n, c, t, a2, n2, c2, by rw [← Nat.add_zero (4 * j), e]; rfl, by rw [e]; rfl, by rw [e]; rfl, by rw [e]; rfl, ?_⟩
    refine (hq.here.kept (w' := w7) (by omega) (fun b hb => ?_)).mono (fun b hb => ⟨fun e => ?_, by omega⟩)
    · rw [hg7.block b (by omega) (fun e => by have := hvlt b e.symm; omega), hb6.block b (by omega)]
    · rcases hv7 with h7 | h7
      · rw [h7] at e; have := hvlt b e; omega
      · rw [h7] at e; simp only [Option.some.injEq] at e; omega
  · refine ((h.ent j (by omega)).kept (w' := w7) (by omega) (fun b hb => ?_) (fun b hb => ⟨fun e => ?_, by omega⟩)).left (by omega)
    · rw [hg7.block b (by omega) (fun e => hb.1 e.symm), hb6.block b (by omega), hb5.block b (by omega)]
    · rcases hv7 with h7 | h7
      · rw [h7] at e; exact hb.1 e
      · rw [h7] at e; simp only [Option.some.injEq] at e; omega
theorem sign_ne {q : Rat} (h : q ≠ 0) : (q.num.sign == 0) = false := by
  have : q.num ≠ 0 := fun e => h (Rat.num_eq_zero.1 e)
  simpa using this
/-- Four stores make an entry. -/
theorem EntR.made {p : Nat → Prop} {w : World} {X : Nat} {q : Rat} {s t : Int} {a a2 : Option Addr} {n c n2 c2 : Nat} {v0 v1 v2 v3 : Value}
    (h0 : w.cell? ⟨X, 0, none⟩ = some v0) (h1 : w.cell? ⟨X, 1, none⟩ = some v1) (h2 : w.cell? ⟨X, 2, none⟩ = some v2) (h3 : w.cell? ⟨X, 3, none⟩ = some v3)
    (hq : RatioR p w (.agg #[.int .i64 s, .slice a n c, .int .i64 t, .slice a2 n2 c2]) q) (hp : ∀ b, p b → b ≠ X) :
    EntR p ((((w.setCell ⟨X, 0, none⟩ (.int .i64 s)).setCell ⟨X, 1, none⟩ (.slice a n c)).setCell ⟨X, 2, none⟩ (.int .i64 t)).setCell ⟨X, 3, none⟩ (.slice a2 n2 c2)) X 0 q := by
  obtain ⟨e1, e2, e3, e4, e5, e6, e7, e8⟩ := set4 w X 0 (.int .i64 s) (.slice a n c) (.int .i64 t) (.slice a2 n2 c2) h0 h1 h2 h3 _ rfl
  exact ⟨s, a, n, c, t, a2, n2, c2, e5, e6, e7, e8, hq.kept (by rw [e1]; exact Nat.le_refl _) (fun b hb => e3 b (hp b hb))⟩
theorem swap_mid (w : World) (b0 i k : Nat) {u v : Value} (h0 : w.cell? ⟨b0, i, none⟩ = some u) (h1 : w.cell? ⟨b0, k, none⟩ = some v) : (w.drew.setCell ⟨b0, i, none⟩ v).cell? ⟨b0, k, none⟩ = some v := by
  have h1' : w.drew.cell? ⟨b0, k, none⟩ = some v := h1
  have h0' : w.drew.cell? ⟨b0, i, none⟩ = some u := h0
  by_cases h : k = i
  · subst h; exact World.cell?_setCell_same _ _ _ h1'
  · rw [World.cell?_setCell_other _ _ _ _ (fun e => h (Addr.mk.inj e).2.1.symm)]; exact h1'
theorem swap_mid2 (w : World) (b0 i k : Nat) {u v : Value} (h0 : w.cell? ⟨b0, i, none⟩ = some u) (h1 : w.cell? ⟨b0, k, none⟩ = some v) : (w.setCell ⟨b0, i, none⟩ v).drew.cell? ⟨b0, k, none⟩ = some v := swap_mid w b0 i k h0 h1
/-- Two rows exchanged by two stores. -/
theorem MatR.swap2 {lo hi : Nat} {w wa : World} {b0 n : Nat} {r c : Nat → Nat} {M : Nat → Nat → Rat} (h : MatR lo hi w b0 n r c M) {i k : Nat} (hi' : i < n) (hk : k < n)
    (hW2 : (w.setCell ⟨b0, i, none⟩ (.slice (some ⟨r k, 0, none⟩) (n + 1) (c k))).drew = wa) :
    MatR lo hi (wa.setCell ⟨b0, k, none⟩ (.slice (some ⟨r i, 0, none⟩) (n + 1) (c i))) b0 n (fun j => r (sw i k j)) (fun j => c (sw i k j)) (swp M i k) := by
  have hW : w.drew.setCell ⟨b0, i, none⟩ (.slice (some ⟨r k, 0, none⟩) (n + 1) (c k)) = wa := hW2
  have hm := swap_mid w b0 i k (h.top i hi') (h.top k hk)
  have hti : w.drew.cell? ⟨b0, i, none⟩ = some (.slice (some ⟨r i, 0, none⟩) (n + 1) (c i)) := h.top i hi'
  rw [hW] at hm
  have hcr : ∀ o, w.drew.cell? ⟨b0, o, none⟩ = w.cell? ⟨b0, o, none⟩ := fun o => rfl
  have hoth : ∀ o, o ≠ i → wa.cell? ⟨b0, o, none⟩ = w.cell? ⟨b0, o, none⟩ := fun o ho => by
    rw [← hW, World.cell?_setCell_other _ _ _ _ (fun e => ho (Addr.mk.inj e).2.1.symm)]; exact hcr o
  refine h.swap hi' hk (by rw [← hW]; simp) (fun x => by rw [← hW]; simp) (fun b hb => ?_) ?_ (World.cell?_setCell_same _ _ _ hm) (fun o h1 h2 => ?_)
  · rw [← hW, Go.Deep.blk_setCell_other _ _ _ _ hb, Go.Deep.blk_setCell_other _ _ _ _ hb]; rfl
  · by_cases hik : i = k
    · subst hik; exact World.cell?_setCell_same _ _ _ hm
    · rw [World.cell?_setCell_other _ _ _ _ (fun e => hik (Addr.mk.inj e).2.1.symm), ← hW]
      exact World.cell?_setCell_same _ _ _ hti
  · rw [World.cell?_setCell_other _ _ _ _ (fun e => h2 (Addr.mk.inj e).2.1.symm)]
    exact hoth o h1
/-- After the exchange: no row is done yet. -/
theorem St.start {lo hi : Nat} {w w' : World} {b0 n : Nat} {A : Nat → Nat → Rat} {K k t : Nat} {M : Nat → Nat → Rat} {r c r' c' : Nat → Nat} (h : St lo hi w b0 n A K k M r c) (hk : k < n) (hkt : k ≤ t) (ht : t < n) (h0 : M t k ≠ 0)
    (hm : MatR lo hi w' b0 n r' c' (swp M k t)) : St4 lo hi w' b0 n A K k 0 (swp M k t) r' c' := by
  refine ⟨hm, swp_clr hkt ht h.clr, h.eqv.trans (swp_eqv hk ht), ⟨?_, fun i hi => absurd hi (by omega)⟩, fun a j ha hj => ?_⟩
  · unfold swp; rw [if_pos rfl]; exact h0
  · rw [if_neg (by omega), swp_sw]
    exact h.sz _ _ (sw_lt hk ht ha) hj
theorem St4.next {lo hi : Nat} {w : World} {b0 n : Nat} {A : Nat → Nat → Rat} {K k : Nat} {M : Nat → Nat → Rat} {r c : Nat → Nat} (h : St4 lo hi w b0 n A K k n M r c) (hk : k < n) : St lo hi w b0 n A K (k + 1) M r c := by
  refine ⟨h.mat, Part.next h.clr hk h.part, h.eqv, fun i j hi hj => (h.sz i j hi hj).mono ?_⟩
  simp only [kz]
  split <;> omega
theorem Outs.zero (lo : Nat) (w : World) (x : Nat → Rat) : Outs lo w (.slice none 0 0) 0 x [] := ⟨World.ownsRow_nil _ _ _ _, fun j h => absurd h (by omega)⟩
end Go.Proofs.Ytbjgklifmillgaa
