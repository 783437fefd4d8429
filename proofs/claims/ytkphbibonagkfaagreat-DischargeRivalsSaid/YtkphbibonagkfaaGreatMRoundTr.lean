import Derived.Deep.QuietTactic
import Derived.Test.YtkphbibonagkfaaGreatMLib
import Derived.Test.YtkphbibonagkfaaGreatQTail
/- What is walked plainly holds in a round of a range over a function, where no operation is a defer statement. -/
namespace Go.Proofs.YtkphbibonagkfaaGreat
open Go.RowKit
set_option linter.unusedVariables false

section
variable {P : Program} {ops : Array Oper} {Q : Exit → Act → World → Prop} {l n : Nat}
theorem rowsIn_round {row : String} {args : Array Value} {w : World} {R : Value → World → Prop} (h : Rows P row args w R) : RowsIn (Fence.wide.inRound l) n P row args w R :=
  fun c cs _ => let ⟨v, w', r, s⟩ := h c cs; ⟨v, w', r, stepsIn_wide.2 s⟩
theorem wpIn_of_wp {o : Oper} {K : Act → World → Prop} {a : Act} {w : World} (hd : ∀ c, o.op ≠ .defer c) (h : o.wp P a w K Q) : o.wpIn (Fence.wide.inRound l) n P a w K Q := by
  refine ⟨fun _ _ => trivial, ?_⟩
  show o.uponIn (Fence.wide.inRound l) n P a K Q ((o.semAt (some l) a.eval).run P w)
  rw [Oper.semAt_some l a.eval o hd]
  unfold Oper.wp at h
  generalize (execOp a.eval o).run P w = r at *
  have hdp : ((Fence.wide.inRound l).depth.isSome = true → 1 ≤ n) := fun h => by cases h
  cases r with
  | ok x w' =>
    cases x with
    | value v => exact h
    | skip => exact h
    | «defer» d => exact h
    | enter f args => exact ⟨hdp, callsIn_wide.2 h⟩
    | row r args => exact ⟨hdp, rowsIn_round h⟩
    | _ => exact h.elim
  | halt x w' => cases x <;> first | exact h | exact h.elim
theorem opIn_of_op {i : Nat} {K : Act → World → Prop} {a : Act} {w : World} (hd : ∀ o, ops[i]? = some o → ∀ c, o.op ≠ .defer c) (hq : ¬ LetsOut Q) (h : wpOp P ops Q i K a w) : wpOpIn (Fence.wide.inRound l) n P ops Q i K a w := by
  unfold wpOp at h
  unfold wpOpIn
  cases ho : ops[i]? with
  | none => rw [ho] at h; exact h
  | some o =>
    rw [ho] at h
    simp only at h ⊢
    split at h
    · rename_i hw
      rw [if_pos hw]
      rcases h with h | h
      · exact wpIn_of_wp (hd o ho) h
      · exact absurd h.2 hq
    · rename_i hw
      rw [if_neg hw]
      exact ⟨fun _ _ => trivial, h⟩
theorem anyIn_of_any {md : Region.Mode} (hd : ∀ (i : Nat) (o : Oper), ops[i]? = some o → ∀ c, o.op ≠ .defer c) (hq : ¬ LetsOut Q) : ∀ (fuel : Nat) (listed : Array Bool) (a : Act) (w : World), wpAny P md ops Q fuel listed a w → wpAnyIn (Fence.wide.inRound l) n P md ops Q fuel listed a w
  | 0, _, _, _, h => h
  | fuel + 1, listed, a, w, h => ⟨h.1, fun i hi => opIn_of_op (hd i) hq (wpOp_mono (fun a' w' hh => anyIn_of_any hd hq fuel _ a' w' hh) (h.2 i hi))⟩
/-- No operation is a defer statement. -/
def noDeferB (ops : List Oper) : Bool := ops.all (fun (o : Oper) => match o.op with | .defer _ => false | _ => true)
theorem noDefer_spec {ops : List Oper} (h : noDeferB ops = true) : ∀ (i : Nat) (o : Oper), ops.toArray[i]? = some o → ∀ c, o.op ≠ .defer c := fun i o ho c hc => by
  have hm : o ∈ ops := by
    rw [List.getElem?_toArray] at ho
    exact List.mem_of_getElem? ho
  have := List.all_eq_true.1 h o hm
  rw [hc] at this
  cases this
/-- A region that draws its order, in a round: it is walked as anywhere. -/
theorem region_in_round {id : Nat} {a : Act} {w : World} {ops : List Oper} (hm : P.follows .mixedOrders = true) (hd : noDeferB ops = true) (hq : ¬ LetsOut Q)
    (h : wpAny P .any ops.toArray Q ops.toArray.size (Array.replicate ops.toArray.size false) a w.drew) : (Code.region id ops.toArray true).wpIn (Fence.wide.inRound l) n P Q a w :=
  wpIn_region_any hm (anyIn_of_any (noDefer_spec hd) hq _ _ _ _ h)
/-- All of it quiet in a class of worlds. -/
theorem any_of_quiet {C : World → Prop} {a : Act} {w : World} {ops : List Oper} (hB : Region.lexB .any ops.toArray = true) (hC : C w)
    (h : wpQuiet P ops.toArray C (fun a' => ∀ w', C w' → Q .normal a' w') ops a) : wpAny P .any ops.toArray Q ops.toArray.size (Array.replicate ops.toArray.size false) a w := by
  simp only [Region.lexB, Bool.and_eq_true] at hB
  refine wpAny_of_quiet (Q := fun a' => ∀ w', C w' → Q .normal a' w') (fun _ w' hw' h => h w' hw') _ _ _ _ hC ?_
  have := wpAnyQ_lex (P := P) (C := C) (md := .any) hB.1 ops.toArray.toList 0 (Array.replicate ops.toArray.size false) a (by simp) (by simpa using hB.2) (by simpa using h)
  simpa using this
/-- The head quiet, the tail in its one order. -/
theorem any_of_quiet_tail {C : World → Prop} {a : Act} {w : World} {l : List Oper} (n : Nat) (hB : Region.lexTailB .any l.toArray n = true) (hC : C w)
    (h : wpQuiet P l.toArray C (fun a' => ∀ w', C w' → wpList P l.toArray Q (l.drop n) a' w') (l.take n) a) : wpAny P .any l.toArray Q l.toArray.size (Array.replicate l.toArray.size false) a w := by
  simp only [Region.lexTailB, Bool.and_eq_true, decide_eq_true_eq] at hB
  obtain ⟨⟨⟨⟨hsel, hn⟩, hs⟩, hc⟩, hlex⟩ := hB
  have hn' : n < l.length := by simpa using hn
  have htl : (l.take n).length = n := by simp; omega
  have hdl : (l.drop n).length = l.toArray.size - n := by simp
  have inv0 : HeadInv .any l.toArray n (Array.replicate l.toArray.size false) :=
    ⟨by simp, fun j oj _ hl => (by rw [getD_replicate_false] at hl; cases hl), fun t _ ht => getD_in (by simpa using ht) (getD_replicate_false _ _)⟩
  have H := headQ_lex (md := .any) (C := C) (g := l.toArray.size - n) hsel hs hc hn (l.take n) 0 _ a (fun j hj => by
    have hj' : j < n := by rw [htl] at hj; exact hj
    simp [hj']) (by simpa using htl) inv0 (by rw [htl]; exact hlex) h
  have := any_of_headQ (Q' := Q) (g := l.toArray.size - n) (fun listed a' w' hw' hL => by
    have := wpAny_of_seq (md := .any) (Q' := Q) (l.drop n) n listed a' w' (fun j => by simp [List.getElem?_drop]) (by rw [hdl]; exact hL.1) (hL.2 w' hw')
    rwa [hdl] at this) _ _ _ _ hC H
  rw [htl, show n + (l.toArray.size - n) = l.toArray.size by omega] at this
  exact this
theorem round_later_all {l n : Nat} {id : Nat} {a : Act} {w : World} {ops : List Oper} (hm : P.follows .mixedOrders = true) (hd : noDeferB ops = true) (hq : ¬ LetsOut Q) (hB : Region.lexB .any ops.toArray = true)
    (h : wpQuiet P ops.toArray (fun w' => ∃ u : Later w, w' = u.world) (fun a' => ∀ w', Below w.heap.size w w' → Q .normal a' w') ops a) : (Code.region id ops.toArray true).wpIn (Fence.wide.inRound l) n P Q a w :=
  region_in_round hm hd hq (any_of_quiet (C := fun w' => ∃ u : Later w, w' = u.world) hB ⟨⟨_, (Below.refl _ _).drew⟩, rfl⟩ (wpQuiet_mono (fun a' hh w' hw' => by obtain ⟨u, rfl⟩ := hw'; exact hh _ u.below) _ _ h))
theorem round_later_tail {l n : Nat} {id : Nat} {a : Act} {w : World} {ops : List Oper} (m : Nat) (hm : P.follows .mixedOrders = true) (hd : noDeferB ops = true) (hq : ¬ LetsOut Q) (hB : Region.lexTailB .any ops.toArray m = true)
    (h : wpQuiet P ops.toArray (fun w' => ∃ u : Later w, w' = u.world) (fun a' => ∀ w', Below w.heap.size w w' → wpList P ops.toArray Q (ops.drop m) a' w') (ops.take m) a) : (Code.region id ops.toArray true).wpIn (Fence.wide.inRound l) n P Q a w :=
  region_in_round hm hd hq (any_of_quiet_tail (C := fun w' => ∃ u : Later w, w' = u.world) m hB ⟨⟨_, (Below.refl _ _).drew⟩, rfl⟩ (wpQuiet_mono (fun a' hh w' hw' => by obtain ⟨u, rfl⟩ := hw'; exact hh _ u.below) _ _ h))
theorem not_out_two {l : Nat} {rec : Loop} {R : Ending → World → Prop} : ¬ LetsOut (twoPost P l rec R) := fun ⟨_, _, h⟩ => h
theorem not_out_then {K : Act → World → Prop} {Q : Exit → Act → World → Prop} (h : ¬ LetsOut Q) : ¬ LetsOut (Exit.then K Q) := fun ⟨a, w, h'⟩ => h ⟨a, w, h'⟩
theorem not_out_block {k : Nat} {Q : Exit → Act → World → Prop} (h : ¬ LetsOut Q) : ¬ LetsOut (Exit.inBlock k Q) := fun ⟨a, w, h'⟩ => h ⟨a, w, h'⟩
end
end Go.Proofs.YtkphbibonagkfaaGreat

/- Plain facts on integers and lists. No program in sight. -/
namespace Go.Proofs.YtkphbibonagkfaaGreat

/-- The first error that is not 0. -/
def firstErr : List Int → Int
  | [] => 0
  | x :: r => if x = 0 then firstErr r else x

/-- An error unless a condition holds. -/
def unl (b : Bool) (e : Int) : Int := if b then 0 else e

/-- n is from lo to hi. -/
def wi (n lo hi : Int) : Bool := decide (lo ≤ n) && decide (n ≤ hi)
theorem wi_iff {n lo hi : Int} : wi n lo hi = true ↔ lo ≤ n ∧ n ≤ hi := by simp [wi]
theorem wi_false {n lo hi : Int} : wi n lo hi = false ↔ ¬ (lo ≤ n ∧ n ≤ hi) := by rw [← wi_iff]; simp

/-- The size of a number, the greatest common divisor, a fraction in lowest terms. -/
def sz (n : Int) : Int := max n (-n)
def gc (a b : Int) : Int := (Int.gcd a b : Nat)
theorem sz_natAbs (n : Int) : sz n = n.natAbs := by unfold sz; omega
theorem gc_zero (a : Int) : gc a 0 = sz a := by unfold gc; rw [sz_natAbs]; simp
theorem gcd_tmod (a b : Int) : Int.gcd b (a.tmod b) = Int.gcd a b := by
  simp only [Int.gcd]
  rw [Int.natAbs_tmod, Nat.gcd_comm, ← Nat.gcd_rec, Nat.gcd_comm]
theorem tmod_lt (a b : Int) (h : b ≠ 0) : (a.tmod b).natAbs < b.natAbs := by
  rw [Int.natAbs_tmod]; exact Nat.mod_lt _ (by omega)
theorem tdiv_le (a b : Int) : (a.tdiv b).natAbs ≤ a.natAbs := by
  rw [Int.natAbs_tdiv]; exact Nat.div_le_self _ _
theorem tdiv_bd (a b m : Int) (h1 : -m ≤ a) (h2 : a ≤ m) : -m ≤ a.tdiv b ∧ a.tdiv b ≤ m := by
  have := tdiv_le a b; omega

theorem gc_pos {a b : Int} (h : 0 < b) : 1 ≤ gc a b := by
  unfold gc
  have : Int.gcd a b ≠ 0 := by intro h; rw [Int.gcd_eq_zero_iff] at h; omega
  omega
theorem gc_le {a b : Int} (h : 0 < b) : gc a b ≤ b := by
  unfold gc
  have h1 : Int.gcd a b ∣ b.natAbs := Int.gcd_dvd_natAbs_right a b
  have := Nat.le_of_dvd (by omega) h1
  omega
theorem drop_at {α : Type} (l : List α) (k : Nat) (d : α) (h : k < l.length) : l.drop k = l.getD k d :: l.drop (k + 1) := by
  rw [List.drop_eq_getElem_cons h]; simp [List.getD, h]
theorem drop_end {α : Type} (l : List α) (k : Nat) (h : l.length ≤ k) : l.drop k = [] := List.drop_eq_nil_of_le h

/-- The error of a line's admittances. -/
def lineErr (l : List Int) : Int := firstErr [unl (decide (0 < l.length)) 10, unl (decide ((l.length : Int) ≤ 10)) 8, unl (!l.any (fun x => !wi x 1 20)) 2]

/-- The errors of a line and a state. -/
def stErr (y f b : List Int) : Int := firstErr [lineErr y, unl (decide (f.length = y.length) && decide (b.length = y.length)) 10, unl (!(f ++ b).any (fun x => !wi x (-1000000) 1000000)) 2]

/-- The first index, from k on, of an element that meets p; -1: there is none. -/
def idxFrom {α : Type} (p : α → Bool) : List α → Nat → Int
  | [], _ => -1
  | x :: r, k => if p x then k else idxFrom p r (k + 1)
theorem idxFrom_any {α : Type} (p : α → Bool) : ∀ (l : List α) (k : Nat), decide (0 ≤ idxFrom p l k) = l.any p
  | [], k => by simp [idxFrom]
  | x :: r, k => by
    simp only [idxFrom, List.any_cons]
    have ih := idxFrom_any p r (k + 1)
    by_cases h : p x = true
    · simp [h]
    · simp [h, ih]
theorem idxFrom_le {α : Type} (p : α → Bool) : ∀ (l : List α) (k : Nat), -1 ≤ idxFrom p l k ∧ idxFrom p l k ≤ k + l.length
  | [], k => by simp [idxFrom]
  | x :: r, k => by
    have := idxFrom_le p r (k + 1)
    simp only [idxFrom, List.length_cons]
    split <;> omega

theorem lineErr_nil {l : List Int} (h : l.length = 0) : lineErr l = 10 := by
  have : l = [] := List.eq_nil_of_length_eq_zero h
  subst this; decide
theorem lineErr_large {l : List Int} (h : 10 < l.length) : lineErr l = 8 := by
  unfold lineErr
  have h1 : decide (0 < l.length) = true := by simp; omega
  have h2 : decide ((l.length : Int) ≤ 10) = false := by simp; omega
  rw [h1, h2]; simp [firstErr, unl]
theorem lineErr_fit {l : List Int} (h0 : 0 < l.length) (h : l.length ≤ 10) : lineErr l = unl (!l.any (fun x => !wi x 1 20)) 2 := by
  unfold lineErr
  have h1 : decide (0 < l.length) = true := by simpa using h0
  have h2 : decide ((l.length : Int) ≤ 10) = true := by simp; omega
  rw [h1, h2]
  cases l.any (fun x => !wi x 1 20) <;> simp [firstErr, unl]

/-- The error of waves. -/
def wErr (l : List Int) : Int := unl (!l.any (fun x => !wi x (-1000000) 1000000)) 2
theorem stErr_line {y f b : List Int} (h : lineErr y ≠ 0) : stErr y f b = lineErr y := by unfold stErr; simp [firstErr, h]
theorem stErr_shape {y f b : List Int} (h : lineErr y = 0) (h2 : ¬ (f.length = y.length ∧ b.length = y.length)) : stErr y f b = 10 := by
  unfold stErr
  have : (decide (f.length = y.length) && decide (b.length = y.length)) = false := by simpa using h2
  rw [this, h]; simp [firstErr, unl]
theorem stErr_waves {y f b : List Int} (h : lineErr y = 0) (h1 : f.length = y.length) (h2 : b.length = y.length) : stErr y f b = if wErr f ≠ 0 then wErr f else wErr b := by
  unfold stErr wErr
  have : (decide (f.length = y.length) && decide (b.length = y.length)) = true := by simp [h1, h2]
  rw [this, h, List.any_append]
  cases f.any (fun x => !wi x (-1000000) 1000000) <;> cases b.any (fun x => !wi x (-1000000) 1000000) <;> simp [firstErr, unl]

/-- A product is bounded. -/
theorem mulb {a b : Int} (A B C : Int) (h1 : -A ≤ a) (h2 : a ≤ A) (h3 : -B ≤ b) (h4 : b ≤ B) (hC : A * B ≤ C) : -C ≤ a * b ∧ a * b ≤ C := by
  have hA : a.natAbs ≤ A.toNat := by omega
  have hB : b.natAbs ≤ B.toNat := by omega
  have hm : (a * b).natAbs ≤ A.toNat * B.toNat := by rw [Int.natAbs_mul]; exact Nat.mul_le_mul hA hB
  have e : ((A.toNat * B.toNat : Nat) : Int) = A * B := by
    rw [Int.natCast_mul, Int.toNat_of_nonneg (by omega), Int.toNat_of_nonneg (by omega)]
  omega

theorem unl_zero {b : Bool} {e : Int} (he : e ≠ 0) (h : unl b e = 0) : b = true := by
  cases b
  · simp [unl] at h; exact absurd h he
  · rfl
theorem lineErr_zero {l : List Int} (h : lineErr l = 0) : 0 < l.length ∧ l.length ≤ 10 ∧ ∀ x ∈ l, 1 ≤ x ∧ x ≤ 20 := by
  rcases Nat.eq_zero_or_pos l.length with h0 | h0
  · rw [lineErr_nil h0] at h; omega
  · rcases Nat.lt_or_ge 10 l.length with h1 | h1
    · rw [lineErr_large h1] at h; omega
    · refine ⟨h0, h1, ?_⟩
      rw [lineErr_fit h0 h1] at h
      intro x hx
      have h2 := unl_zero (by omega) h
      simp only [Bool.not_eq_true', List.any_eq_false] at h2
      have h3 := h2 x hx
      simpa [wi] using h3
theorem wErr_zero {l : List Int} (h : wErr l = 0) : ∀ x ∈ l, -1000000 ≤ x ∧ x ≤ 1000000 := by
  intro x hx
  have h2 := unl_zero (by omega) h
  simp only [Bool.not_eq_true', List.any_eq_false] at h2
  have h3 := h2 x hx
  simpa [wi] using h3
theorem stErr_zero {y f b : List Int} (h : stErr y f b = 0) : lineErr y = 0 ∧ f.length = y.length ∧ b.length = y.length ∧ (∀ x ∈ f, -1000000 ≤ x ∧ x ≤ 1000000) ∧ (∀ x ∈ b, -1000000 ≤ x ∧ x ≤ 1000000) := by
  by_cases h0 : lineErr y = 0
  · by_cases h1 : f.length = y.length ∧ b.length = y.length
    · rw [stErr_waves h0 h1.1 h1.2] at h
      have hf : wErr f = 0 := by
        by_cases hw : wErr f = 0
        · exact hw
        · rw [if_pos hw] at h; exact h
      rw [hf] at h
      simp at h
      exact ⟨h0, h1.1, h1.2, wErr_zero hf, wErr_zero h⟩
    · rw [stErr_shape h0 h1] at h; omega
  · rw [stErr_line h0] at h; exact absurd h h0
theorem getD_mem {l : List Int} {k : Nat} (h : k < l.length) : l.getD k 0 ∈ l := by
  simp [List.getD, h]

theorem mul_self_nonneg' (a : Int) : 0 ≤ a * a := by
  rcases Int.le_total 0 a with h | h
  · exact Int.mul_nonneg h h
  · exact Int.mul_nonneg_of_nonpos_of_nonpos h h

/-- The energy of the first k sections. -/
def enUpto (y f b : List Int) : Nat → Int
  | 0 => 0
  | k + 1 => enUpto y f b k + y.getD k 0 * (f.getD k 0 * f.getD k 0 + b.getD k 0 * b.getD k 0)
end Go.Proofs.YtkphbibonagkfaaGreat
