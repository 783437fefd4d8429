import Derived.Deep.QuietTactic
import Derived.Test.YtdklmcicogmeaaaGreatMLib
/- A region that draws its order, whose first n operations are quiet in a class of worlds (a callee may make memory) and whose last ones are a forced chain: one walk of the text's order serves. My own joining of two theorems of the library (a quiet region; a still region with a tail). -/
namespace Go.Proofs.YtdklmcicogmeaaaGreat
open Go.RowKit
section
variable {P : Program} {ops : Array Oper} {md : Region.Mode} {C : World → Prop}

/-- The first operations in whatever order; behind them L. -/
def headQ (P : Program) (md : Region.Mode) (ops : Array Oper) (C : World → Prop) (n : Nat) (L : Array Bool → Act → Prop) : Nat → Array Bool → Act → Prop
  | 0, listed, a => L listed a
  | f + 1, listed, a => Region.ready md ops listed ≠ [] ∧ ∀ i ∈ Region.ready md ops listed, i < n ∧ qOp P ops C i (headQ P md ops C n L f (listed.setIfInBounds i true)) a

theorem any_of_headQ {n g : Nat} {L : Array Bool → Act → Prop} {Q' : Exit → Act → World → Prop} (hL : ∀ listed a w, C w → L listed a → wpAny P md ops Q' g listed a w) :
    ∀ (f : Nat) (listed : Array Bool) (a : Act) (w : World), C w → headQ P md ops C n L f listed a → wpAny P md ops Q' (f + g) listed a w
  | 0, listed, a, w, hw, h => by rw [Nat.zero_add]; exact hL _ _ _ hw h
  | f + 1, listed, a, w, hw, h => by
    rw [show f + 1 + g = (f + g) + 1 by omega]
    exact ⟨fun h0 => absurd h0 h.1, fun i hi => wpOp_of_qOp hw (fun a' w' hw' h' => any_of_headQ hL f _ a' w' hw' h') (h.2 i hi).2⟩

theorem headQ_first {n i : Nat} {oi : Oper} {v : Value} {L : Array Bool → Act → Prop} (hi : ops[i]? = some oi) (hsel : ∀ (j : Nat) (o : Oper) cs b, ops[j]? = some o → o.op ≠ .select cs b)
    (hs : Region.sinkB md ops n = true) (hc : Region.chainB md ops n = true) (hn : n < ops.size) (hin : i < n)
    (hdone : ∀ listed a, L listed a → ∀ j ∈ Region.ready md ops listed, n ≤ j) :
    ∀ (f : Nat) (listed : Array Bool) (a : Act), HeadInv md ops n listed →
      (∀ j oj, ops[j]? = some oj → j ≠ i → listed.getD j true = false → (∀ e ∈ oj.after, Region.binds md e = true → e.on ≠ i) → oi.apart ops oj = true) →
      i ∈ Region.ready md ops listed → YieldsIn P ops C oi v a →
      headQ P md ops C n L f (listed.setIfInBounds i true) (a.put oi.dst v) → headQ P md ops C n L (f + 1) listed a := by
  intro f
  induction f with
  | zero =>
    intro listed a inv _ hr hy H
    have hun := (mem_ready.1 hr).1
    refine ⟨fun h => (by rw [h] at hr; cases hr), fun j hj => ?_⟩
    have hjn : j < n := by
      rcases Nat.lt_or_ge j n with h | h
      · exact h
      · exact absurd hj (tail_waits hs hc hn inv _ i rfl hin hun j h)
    refine ⟨hjn, ?_⟩
    by_cases hji : j = i
    · subst hji; exact hy.qOp hi H
    · have := hdone _ _ H j (ready_mono hj hji)
      omega
  | succ f ih =>
    intro listed a inv hfree hr hy H
    have hun := (mem_ready.1 hr).1
    refine ⟨fun h => (by rw [h] at hr; cases hr), fun j hj => ?_⟩
    have hjn : j < n := by
      rcases Nat.lt_or_ge j n with h | h
      · exact h
      · exact absurd hj (tail_waits hs hc hn inv _ i rfl hin hun j h)
    refine ⟨hjn, ?_⟩
    by_cases hji : j = i
    · subst hji; exact hy.qOp hi H
    · have h1 := (H.2 j (ready_mono hj hji)).2
      obtain ⟨hjun, oj, hoj, hall⟩ := mem_ready.1 hj
      have hnot : ∀ e ∈ oj.after, Region.binds md e = true → e.on ≠ i := fun e he hb heq => by
        have h1 := hall e he hb
        rw [heq, getD_both hun] at h1
        cases h1
      have h2 := qOp_put hoj (hfree j oj hoj hji hjun hnot) (fun cs b => hsel i oi cs b hi) (fun cs b => hsel j oj cs b hoj) hy h1
      have hfree' : ∀ k ok, ops[k]? = some ok → k ≠ i → (listed.setIfInBounds j true).getD k true = false →
          (∀ e ∈ ok.after, Region.binds md e = true → e.on ≠ i) → oi.apart ops ok = true := fun k ok hk hki hun' hno => by
        refine hfree k ok hk hki ?_ hno
        by_cases hjk : j = k
        · subst hjk; exact hjun
        · rw [getD_set_ne true hjk] at hun'; exact hun'
      refine qOp_mono (fun a' h3 => ih (listed.setIfInBounds j true) a' (inv.set hj hjn) hfree' (ready_mono hr (Ne.symm hji)) h3.1 ?_) h2
      rw [Array.setIfInBounds_comm _ _ hji]
      exact h3.2

theorem headQ_lex {n g : Nat} {Lq : Act → Prop} (hsel : Region.noSelect ops = true) (hs : Region.sinkB md ops n = true) (hc : Region.chainB md ops n = true) (hn : n < ops.size) :
    ∀ (l : List Oper) (k : Nat) (listed : Array Bool) (a : Act), (∀ j, j < l.length → l[j]? = ops[k + j]?) → k + l.length = n → HeadInv md ops n listed →
    Region.lexHead md ops g l.length k listed = true → wpQuiet P ops C Lq l a →
    headQ P md ops C n (fun listed' a' => Region.seqB md ops g n listed' = true ∧ Lq a') l.length listed a
  | [], k, listed, a, _, hk, _, hB, h => by
    have : k = n := by simpa using hk
    subst this
    exact ⟨by simpa [Region.lexHead] using hB, h⟩
  | o :: l, k, listed, a, hl, hk, inv, hB, h => by
    have h0 : ops[k]? = some o := by simpa using (hl 0 (by simp)).symm
    simp only [List.length_cons, Region.lexHead, Bool.and_eq_true] at hB
    obtain ⟨⟨hr, hf⟩, hB'⟩ := hB
    have hkn : k < n := by simp only [List.length_cons] at hk; omega
    have hr' : k ∈ Region.ready md ops listed := by simpa using hr
    have hst : qOp P ops C k (wpQuiet P ops C Lq l) a := by unfold qOp; simp only [h0]; exact h
    obtain ⟨v, hy, hK⟩ := yieldsIn_of_qOp h0 hst
    exact headQ_first h0 (Region.noSelect_spec hsel) hs hc hn hkn (fun listed' a' hL => seqB_ready hL.1) l.length listed a inv (Region.free_spec h0 hf) hr' hy
      (headQ_lex hsel hs hc hn l (k + 1) _ _ (fun j hj => by have := hl (j + 1) (by simp; omega); simpa [Nat.add_assoc, Nat.add_comm 1 j] using this) (by simp only [List.length_cons] at hk; omega) (inv.set hr' hkn) hB' hK)

/-- The theorem: the head quiet in C, the tail by the plain walk, in whatever world of C. -/
theorem wp_region_quiet_tail {id : Nat} {Q : Exit → Act → World → Prop} {a : Act} {w : World} {l : List Oper} (n : Nat) (C : World → Prop) (hm : P.follows .mixedOrders = true) (hB : Region.lexTailB .any l.toArray n = true) (hC : C w.drew)
    (h : wpQuiet P l.toArray C (fun a' => ∀ w', C w' → wpList P l.toArray Q (l.drop n) a' w') (l.take n) a) : (Code.region id l.toArray true).wp P Q a w := by
  simp only [Region.lexTailB, Bool.and_eq_true, decide_eq_true_eq] at hB
  obtain ⟨⟨⟨⟨hsel, hn⟩, hs⟩, hc⟩, hlex⟩ := hB
  have hn' : n < l.length := by simpa using hn
  have htl : (l.take n).length = n := by simp; omega
  have hdl : (l.drop n).length = l.toArray.size - n := by simp
  have inv0 : HeadInv .any l.toArray n (Array.replicate l.toArray.size false) :=
    ⟨by simp, fun j oj _ hl => (by rw [getD_replicate_false] at hl; cases hl), fun t _ ht => getD_in (by simpa using ht) (getD_replicate_false _ _)⟩
  have H := headQ_lex (md := .any) (C := C) (g := l.toArray.size - n) hsel hs hc hn (l.take n) 0 _ a (fun j hj => by
    have hj' : j < n := by rw [htl] at hj; exact hj
    simp [hj']) (by simpa using htl) inv0 (by rw [htl]; exact hlex) h
  refine wp_region_any hm ?_
  have := any_of_headQ (Q' := Q) (g := l.toArray.size - n) (fun listed a' w' hw' hL => by
    have := wpAny_of_seq (md := .any) (Q' := Q) (l.drop n) n listed a' w' (fun j => by simp [List.getElem?_drop]) (by rw [hdl]; exact hL.1) (hL.2 w' hw')
    rwa [hdl] at this) _ _ _ _ hC H
  rw [htl, show n + (l.toArray.size - n) = l.toArray.size by omega] at this
  exact this
end

/-- A world in which all of w0's blocks stand as they were. -/
structure Later (w0 : World) where
  world : World
  below : Below w0.heap.size w0 world

instance later_nonempty (w0 : World) : Nonempty (Later w0) := ⟨⟨w0, Below.refl _ _⟩⟩
theorem Later.cell {w0 : World} (u : Later w0) (a : Addr) (h : (w0.cell? a).isSome = true) : u.world.cell? a = w0.cell? a := by
  obtain ⟨v, hv⟩ := Option.isSome_iff_exists.1 h
  exact u.below.cell (World.block_lt_of_cell? w0 a hv)
theorem Later.frozen {w0 : World} (u : Later w0) (a : Addr) (h : (w0.cell? a).isSome = true) : u.world.frozen? a = w0.frozen? a := by
  obtain ⟨v, hv⟩ := Option.isSome_iff_exists.1 h
  exact u.below.frozen (World.block_lt_of_cell? w0 a hv)
attribute [go_sem] Later.cell Later.frozen

theorem calls_later {P : Program} {f : FuncId} {args : Array Value} {w0 : World} {u : Later w0} {v : Value}
    (h : Calls P f args u.world fun e w' => e = .returned v ∧ Below u.world.heap.size u.world w') : Calls P f args u.world fun e w'' => e = .returned v ∧ ∃ u' : Later w0, w'' = u'.world :=
  h.mono fun _ w' ⟨he, hb⟩ => ⟨he, ⟨w', u.below.trans (hb.mono u.below.size)⟩, rfl⟩
theorem calls_later_same {P : Program} {f : FuncId} {args : Array Value} {w0 : World} {u : Later w0} {v : Value}
    (h : Calls P f args u.world fun e w' => e = .returned v ∧ u.world = w') : Calls P f args u.world fun e w'' => e = .returned v ∧ ∃ u' : Later w0, w'' = u'.world :=
  h.mono fun _ _ ⟨he, hb⟩ => ⟨he, u, hb.symm⟩
theorem calls_later_drew {P : Program} {f : FuncId} {args : Array Value} {w0 : World} {u : Later w0} {v : Value}
    (h : Calls P f args u.world fun e w' => e = .returned v ∧ ∃ n, w' = u.world.drewN n) : Calls P f args u.world fun e w'' => e = .returned v ∧ ∃ u' : Later w0, w'' = u'.world :=
  h.mono fun _ _ ⟨he, n, hb⟩ => ⟨he, ⟨u.world.drewN n, u.below.drewN n⟩, hb⟩
theorem wpQuiet_mono {P : Program} {ops : Array Oper} {C : World → Prop} {Q Q' : Act → Prop} (h : ∀ a, Q a → Q' a) : ∀ (l : List Oper) (a : Act), wpQuiet P ops C Q l a → wpQuiet P ops C Q' l a
  | [], a, hh => h a hh
  | o :: l, a, hh => by
    unfold wpQuiet at hh ⊢
    split
    · rename_i hw; rw [if_pos hw] at hh; exact Oper.quiet_mono (fun a' => wpQuiet_mono h l a') hh
    · rename_i hw; rw [if_neg hw] at hh; exact wpQuiet_mono h l _ hh
theorem later_of_eq {P : Program} {id : Nat} {Q : Exit → Act → World → Prop} {a : Act} {w : World} {l : List Oper} (n : Nat) (hm : P.follows .mixedOrders = true) (hB : Region.lexTailB .any l.toArray n = true)
    (h : wpQuiet P l.toArray (fun w' => ∃ u : Later w, w' = u.world) (fun a' => ∀ w', Below w.heap.size w w' → wpList P l.toArray Q (l.drop n) a' w') (l.take n) a) : (Code.region id l.toArray true).wp P Q a w :=
  wp_region_quiet_tail n (fun w' => ∃ u : Later w, w' = u.world) hm hB ⟨⟨_, (Below.refl _ _).drew⟩, rfl⟩ (wpQuiet_mono (fun a' hh w' hw' => by obtain ⟨u, rfl⟩ := hw'; exact hh _ u.below) _ _ h)
theorem later_all {P : Program} {id : Nat} {Q : Exit → Act → World → Prop} {a : Act} {w : World} {l : List Oper} (hm : P.follows .mixedOrders = true) (hB : Region.lexB .any l.toArray = true)
    (h : wpQuiet P l.toArray (fun w' => ∃ u : Later w, w' = u.world) (fun a' => ∀ w', Below w.heap.size w w' → Q .normal a' w') l a) : (Code.region id l.toArray true).wp P Q a w :=
  wp_region_quiet (C := fun w' => ∃ u : Later w, w' = u.world) hm hB ⟨⟨_, (Below.refl _ _).drew⟩, rfl⟩ (wpQuiet_mono (fun a' hh w' hw' => by obtain ⟨u, rfl⟩ := hw'; exact hh _ u.below) _ _ (by simpa using h))
/-- The same where the head only reads (it may draw): behind it the world is the one at hand after some draws. -/
theorem drew_of_eq {P : Program} {id : Nat} {Q : Exit → Act → World → Prop} {a : Act} {w : World} {l : List Oper} (n : Nat) (hm : P.follows .mixedOrders = true) (hB : Region.lexTailB .any l.toArray n = true)
    (h : wpQuiet P l.toArray (fun w' => ∃ n, w' = w.drewN n) (fun a' => ∀ m, wpList P l.toArray Q (l.drop n) a' (w.drewN m)) (l.take n) a) : (Code.region id l.toArray true).wp P Q a w :=
  wp_region_quiet_tail n (fun w' => ∃ n, w' = w.drewN n) hm hB ⟨1, rfl⟩ (wpQuiet_mono (fun a' hh w' hw' => by obtain ⟨m, rfl⟩ := hw'; exact hh m) _ _ h)
theorem calls_drew_same {P : Program} {f : FuncId} {args : Array Value} {w : World} {n : Nat} {v : Value}
    (h : Calls P f args (w.drewN n) fun e w' => e = .returned v ∧ w.drewN n = w') : Calls P f args (w.drewN n) fun e w'' => e = .returned v ∧ ∃ m, w'' = w.drewN m :=
  h.mono fun _ _ ⟨he, hm⟩ => ⟨he, n, hm.symm⟩
theorem calls_drew {P : Program} {f : FuncId} {args : Array Value} {w : World} {n : Nat} {v : Value}
    (h : Calls P f args (w.drewN n) fun e w' => e = .returned v ∧ ∃ m, w' = (w.drewN n).drewN m) : Calls P f args (w.drewN n) fun e w'' => e = .returned v ∧ ∃ m, w'' = w.drewN m :=
  h.mono fun _ _ ⟨he, m, hm⟩ => ⟨he, n + m, by rw [hm, World.drewN_drewN]⟩
end Go.Proofs.YtdklmcicogmeaaaGreat

/- What is walked plainly holds in a round of a range over a function, where no operation is a defer statement. -/
namespace Go.Proofs.YtdklmcicogmeaaaGreat
open Go.RowKit
set_option linter.unusedVariables false

section
variable {P : Program} {ops : Array Oper} {Q : Exit → Act → World → Prop} {l n : Nat}
theorem rowsIn_round {row : String} {args : Array Value} {w : World} {R : Value → World → Prop} (h : Rows P row args w R) : RowsIn (Fence.wide.inRound l) n P row args w R :=
  fun c cs _ => let ⟨v, w', r, s⟩ := h c cs; ⟨v, w', r, stepsIn_wide.2 s⟩
theorem wpIn_of_wp {o : Oper} {K : Act → World → Prop} {a : Act} {w : World} (hd : ∀ c, o.op ≠ .defer c) (h : o.wp P a w K Q) : o.wpIn (Fence.wide.inRound l) n P a w K Q := by
  refine ⟨fun _ _ => trivial, ?_⟩
  show o.uponIn (Fence.wide.inRound l) n P a K Q ((o.semAt (some l) a.eval).run P w)
  rw [Oper.semAt_some l a.eval o hd]
  unfold Oper.wp at h
  generalize (execOp a.eval o).run P w = r at *
  have hdp : ((Fence.wide.inRound l).depth.isSome = true → 1 ≤ n) := fun h => by cases h
  cases r with
  | ok x w' =>
    cases x with
    | value v => exact h
    | skip => exact h
    | «defer» d => exact h
    | enter f args => exact ⟨hdp, callsIn_wide.2 h⟩
    | row r args => exact ⟨hdp, rowsIn_round h⟩
    | _ => exact h.elim
  | halt x w' => cases x <;> first | exact h | exact h.elim
theorem opIn_of_op {i : Nat} {K : Act → World → Prop} {a : Act} {w : World} (hd : ∀ o, ops[i]? = some o → ∀ c, o.op ≠ .defer c) (hq : ¬ LetsOut Q) (h : wpOp P ops Q i K a w) : wpOpIn (Fence.wide.inRound l) n P ops Q i K a w := by
  unfold wpOp at h
  unfold wpOpIn
  cases ho : ops[i]? with
  | none => rw [ho] at h; exact h
  | some o =>
    rw [ho] at h
    simp only at h ⊢
    split at h
    · rename_i hw
      rw [if_pos hw]
      rcases h with h | h
      · exact wpIn_of_wp (hd o ho) h
      · exact absurd h.2 hq
    · rename_i hw
      rw [if_neg hw]
      exact ⟨fun _ _ => trivial, h⟩
theorem anyIn_of_any {md : Region.Mode} (hd : ∀ (i : Nat) (o : Oper), ops[i]? = some o → ∀ c, o.op ≠ .defer c) (hq : ¬ LetsOut Q) : ∀ (fuel : Nat) (listed : Array Bool) (a : Act) (w : World), wpAny P md ops Q fuel listed a w → wpAnyIn (Fence.wide.inRound l) n P md ops Q fuel listed a w
  | 0, _, _, _, h => h
  | fuel + 1, listed, a, w, h => ⟨h.1, fun i hi => opIn_of_op (hd i) hq (wpOp_mono (fun a' w' hh => anyIn_of_any hd hq fuel _ a' w' hh) (h.2 i hi))⟩
/-- No operation is a defer statement. -/
def noDeferB (ops : List Oper) : Bool := ops.all (fun (o : Oper) => match o.op with | .defer _ => false | _ => true)
theorem noDefer_spec {ops : List Oper} (h : noDeferB ops = true) : ∀ (i : Nat) (o : Oper), ops.toArray[i]? = some o → ∀ c, o.op ≠ .defer c := fun i o ho c hc => by
  have hm : o ∈ ops := by
    rw [List.getElem?_toArray] at ho
    exact List.mem_of_getElem? ho
  have := List.all_eq_true.1 h o hm
  rw [hc] at this
  cases this
/-- A region that draws its order, in a round: it is walked as anywhere. -/
theorem region_in_round {id : Nat} {a : Act} {w : World} {ops : List Oper} (hm : P.follows .mixedOrders = true) (hd : noDeferB ops = true) (hq : ¬ LetsOut Q)
    (h : wpAny P .any ops.toArray Q ops.toArray.size (Array.replicate ops.toArray.size false) a w.drew) : (Code.region id ops.toArray true).wpIn (Fence.wide.inRound l) n P Q a w :=
  wpIn_region_any hm (anyIn_of_any (noDefer_spec hd) hq _ _ _ _ h)
/-- All of it quiet in a class of worlds. -/
theorem any_of_quiet {C : World → Prop} {a : Act} {w : World} {ops : List Oper} (hB : Region.lexB .any ops.toArray = true) (hC : C w)
    (h : wpQuiet P ops.toArray C (fun a' => ∀ w', C w' → Q .normal a' w') ops a) : wpAny P .any ops.toArray Q ops.toArray.size (Array.replicate ops.toArray.size false) a w := by
  simp only [Region.lexB, Bool.and_eq_true] at hB
  refine wpAny_of_quiet (Q := fun a' => ∀ w', C w' → Q .normal a' w') (fun _ w' hw' h => h w' hw') _ _ _ _ hC ?_
  have := wpAnyQ_lex (P := P) (C := C) (md := .any) hB.1 ops.toArray.toList 0 (Array.replicate ops.toArray.size false) a (by simp) (by simpa using hB.2) (by simpa using h)
  simpa using this
/-- The head quiet, the tail in its one order. -/
theorem any_of_quiet_tail {C : World → Prop} {a : Act} {w : World} {l : List Oper} (n : Nat) (hB : Region.lexTailB .any l.toArray n = true) (hC : C w)
    (h : wpQuiet P l.toArray C (fun a' => ∀ w', C w' → wpList P l.toArray Q (l.drop n) a' w') (l.take n) a) : wpAny P .any l.toArray Q l.toArray.size (Array.replicate l.toArray.size false) a w := by
  simp only [Region.lexTailB, Bool.and_eq_true, decide_eq_true_eq] at hB
  obtain ⟨⟨⟨⟨hsel, hn⟩, hs⟩, hc⟩, hlex⟩ := hB
  have hn' : n < l.length := by simpa using hn
  have htl : (l.take n).length = n := by simp; omega
  have hdl : (l.drop n).length = l.toArray.size - n := by simp
  have inv0 : HeadInv .any l.toArray n (Array.replicate l.toArray.size false) :=
    ⟨by simp, fun j oj _ hl => (by rw [getD_replicate_false] at hl; cases hl), fun t _ ht => getD_in (by simpa using ht) (getD_replicate_false _ _)⟩
  have H := headQ_lex (md := .any) (C := C) (g := l.toArray.size - n) hsel hs hc hn (l.take n) 0 _ a (fun j hj => by
    have hj' : j < n := by rw [htl] at hj; exact hj
    simp [hj']) (by simpa using htl) inv0 (by rw [htl]; exact hlex) h
  have := any_of_headQ (Q' := Q) (g := l.toArray.size - n) (fun listed a' w' hw' hL => by
    have := wpAny_of_seq (md := .any) (Q' := Q) (l.drop n) n listed a' w' (fun j => by simp [List.getElem?_drop]) (by rw [hdl]; exact hL.1) (hL.2 w' hw')
    rwa [hdl] at this) _ _ _ _ hC H
  rw [htl, show n + (l.toArray.size - n) = l.toArray.size by omega] at this
  exact this
theorem round_later_all {l n : Nat} {id : Nat} {a : Act} {w : World} {ops : List Oper} (hm : P.follows .mixedOrders = true) (hd : noDeferB ops = true) (hq : ¬ LetsOut Q) (hB : Region.lexB .any ops.toArray = true)
    (h : wpQuiet P ops.toArray (fun w' => ∃ u : Later w, w' = u.world) (fun a' => ∀ w', Below w.heap.size w w' → Q .normal a' w') ops a) : (Code.region id ops.toArray true).wpIn (Fence.wide.inRound l) n P Q a w :=
  region_in_round hm hd hq (any_of_quiet (C := fun w' => ∃ u : Later w, w' = u.world) hB ⟨⟨_, (Below.refl _ _).drew⟩, rfl⟩ (wpQuiet_mono (fun a' hh w' hw' => by obtain ⟨u, rfl⟩ := hw'; exact hh _ u.below) _ _ h))
theorem round_later_tail {l n : Nat} {id : Nat} {a : Act} {w : World} {ops : List Oper} (m : Nat) (hm : P.follows .mixedOrders = true) (hd : noDeferB ops = true) (hq : ¬ LetsOut Q) (hB : Region.lexTailB .any ops.toArray m = true)
    (h : wpQuiet P ops.toArray (fun w' => ∃ u : Later w, w' = u.world) (fun a' => ∀ w', Below w.heap.size w w' → wpList P ops.toArray Q (ops.drop m) a' w') (ops.take m) a) : (Code.region id ops.toArray true).wpIn (Fence.wide.inRound l) n P Q a w :=
  region_in_round hm hd hq (any_of_quiet_tail (C := fun w' => ∃ u : Later w, w' = u.world) m hB ⟨⟨_, (Below.refl _ _).drew⟩, rfl⟩ (wpQuiet_mono (fun a' hh w' hw' => by obtain ⟨u, rfl⟩ := hw'; exact hh _ u.below) _ _ h))
theorem not_out_two {l : Nat} {rec : Loop} {R : Ending → World → Prop} : ¬ LetsOut (twoPost P l rec R) := fun ⟨_, _, h⟩ => h
theorem not_out_then {K : Act → World → Prop} {Q : Exit → Act → World → Prop} (h : ¬ LetsOut Q) : ¬ LetsOut (Exit.then K Q) := fun ⟨a, w, h'⟩ => h ⟨a, w, h'⟩
theorem not_out_block {k : Nat} {Q : Exit → Act → World → Prop} (h : ¬ LetsOut Q) : ¬ LetsOut (Exit.inBlock k Q) := fun ⟨a, w, h'⟩ => h ⟨a, w, h'⟩
end
end Go.Proofs.YtdklmcicogmeaaaGreat
