import Derived.RangeFuncNested
import Derived.RangeFuncBound
import Derived.RangeFuncCalls
import Derived.RangeFuncLeaves
import Derived.OwnWalkIn
import Derived.TacticsInMore
import Derived.Deep.QuietTactic
import Derived.LoopNIn
import Derived.LoopIn
import Derived.Shelf.RegionOpen
import Derived.Deep.CutRange
import Derived.Test.YtidboecjllaofaaMA
import Derived.Test.YtidboecjllaofaaMB
import Derived.Test.YtidboecjllaofaaMC
import Derived.Test.YtidboecjllaofaaMD
/- A range over a method value or a closure, whose rounds may leave: a round, the statement, and a return behind many such statements. -/
namespace Go.Proofs.Ytidboecjllaofaa
open Go.RowKit
set_option linter.unusedVariables false

/-- What a round leaves: it goes on, or it leaves by the jump j. -/
def twoPost (P : Program) (l : Nat) (rec : Loop) (R : Ending → World → Prop) : Exit → Act → World → Prop
  | .normal, _, W => W.heap[l]? = some (.loop { rec with state := .busy }) ∧ R (.returned (.bool true)) (W.putObj l (.loop rec))
  | .ret, _, W => W.heap[l]? = some (.loop { rec with state := .busy }) ∧ R (.returned (.bool false)) (W.putObj l (.loop { rec with state := .done, pending := some .ret }))
  | _, _, _ => False
theorem yield_two {P : Program} {m l : Nat} {xs : Array Value} {W : World} {R : Ending → World → Prop} {rec : Loop} (hl : W.heap[l]? = some (.loop rec)) (hst : rec.state = .ready) (hp : rec.pending = none) (hsz : xs.size = rec.params.size)
    (h : rec.assign.wpIn (Fence.wide.inRound l) m P (Exit.then (fun a1 W1 => W1.heap[l]? = some (.loop rec) ∧ rec.body.wpIn (Fence.wide.inRound l) m P (twoPost P l rec R) a1 (W1.putObj l (.loop { rec with state := .busy }))) (fun _ _ _ => False))
      { tmps := (rec.params.zip xs).foldl (fun t (p, v) => t.setIfInBounds p v) rec.tmps, defers := [] } W) :
    YieldAt Fence.wide m P l xs W R := by
  refine ⟨_, _, _, _, run_yield hl hsz, roundIn_of_wpIn trivial (wpIn_mono h ?_)⟩
  intro e a1 W1 hq
  cases e with
  | normal =>
    obtain ⟨h1, h2⟩ := hq
    refine ⟨_, run_beginRound h1 hst, wpIn_mono h2 ?_⟩
    intro e2 a2 W2 hq2
    cases e2 with
    | normal =>
      obtain ⟨h3, h4⟩ := hq2
      refine ⟨_, _, run_endRound none h3, ?_⟩
      have : ({ { rec with state := .busy } with state := if (none : Option Code).isNone then .ready else .done, pending := none } : Loop) = rec := by
        cases rec; simp_all
      simp only [this]
      exact h4
    | ret =>
      obtain ⟨h3, h4⟩ := hq2
      refine ⟨_, _, run_endRound (some .ret) h3, ?_⟩
      exact h4
    | _ => exact hq2.elim
  | _ => exact hq.elim
theorem range_two {P : Program} {n : Nat} {g : Operand} {ps : Array Tmp} {assign body : Code} {Q : Exit → Act → World → Prop} {a : Act} {w : World} {gf : Nat} {fst lst : Array Value}
    (hg : a.eval g = .func (.func gf) fst lst) (eg : ∀ args w, (callFunc gf args).run P w = .ok (.enter gf args) w)
    (h : ∀ rec : Loop, rec.state = .ready → rec.pending = none → rec.params = ps → rec.tmps = a.tmps → rec.assign = assign → rec.body = body →
      CallsIn Fence.wide (n - 1) P gf (fst ++ #[.func (.yield (w.heap.size + 1)) #[] #[]] ++ lst) ((w.alloc (.deferred (some []))).alloc (.loop rec)) fun e W => (∃ v, e = .returned v) ∧
        ((W.heap[w.heap.size + 1]? = some (.loop rec) ∧
          Q .normal { a with defers := { target := .collected w.heap.size, args := #[] } :: a.defers } (W.putObj (w.heap.size + 1) (.loop { rec with state := .exhausted }))) ∨
        (W.heap[w.heap.size + 1]? = some (.loop { rec with state := .done, pending := some .ret }) ∧
          Q .ret { a with defers := { target := .collected w.heap.size, args := #[] } :: a.defers } (W.putObj (w.heap.size + 1) (.loop { rec with state := .exhausted, pending := some .ret }))))) :
    (Code.rangeFunc g ps assign body).wpIn Fence.wide n P Q a w := by
  refine wpIn_rangeFunc ?_
  intro fn hfn
  obtain ⟨W1, hW1⟩ : ∃ W1, W1 = (w.alloc (.deferred (some []))).alloc (.loop { state := .ready, pending := none, fn := fn, tmps := a.tmps, params := ps, assign := assign, body := body, defers := w.heap.size }) := ⟨_, rfl⟩
  refine ⟨w.heap.size + 1, [{ target := .collected w.heap.size, args := #[] }], W1, { target := .fn (.func gf) lst, args := fst ++ #[.func (.yield (w.heap.size + 1)) #[] #[]] }, W1, gf, fst ++ #[.func (.yield (w.heap.size + 1)) #[] #[]] ++ lst, W1, by rw [hW1]; exact run_enterLoop_outer _ _ _ _ _, ?_, fun _ _ => trivial, ?_, fun h => by simp [Fence.wide] at h, ?_⟩
  · simp only [resolve, hg]
    simp [go_sem]
  · simp [invoke, go_sem, eg]
  · rw [hW1]
    refine (h _ rfl rfl rfl rfl rfl rfl).mono ?_
    rintro e W ⟨⟨v, rfl⟩, (⟨h1, h2⟩ | ⟨h1, h2⟩)⟩
    · exact ⟨none, _, by have := run_endLoop (P := P) h1 (by simp); exact this, h2⟩
    · refine ⟨some .ret, _, by have := run_endLoop (P := P) h1 (by simp); exact this, ?_⟩
      exact wpIn_ret h2
/-- The cells are as they were; behind a return: the marks' blocks are shut. -/
def SameCells (A B : World) : Prop := ∀ (k : Nat) c t z, A.heap[k]? = some (.cells c t z) → B.heap[k]? = some (.cells c t z)
def mark (D : Nat) : Deferred := { target := .collected D, args := #[] }
theorem leaves_marks {P : Program} {F : Fence} {n : Nat} {fn : Func} {tmps : Array Value} {R : Ending → World → Prop} {B : Nat} {w0 : World} : ∀ (l : List Nat) (w : World), l.Nodup → (∀ D ∈ l, B ≤ D ∧ w.heap[D]? = some (.deferred (some []))) → Below B w0 w →
    (∀ w', SameCells w w' → Below B w0 w' → ∃ v, (results fn tmps).run P w' = .ok v w' ∧ R (.returned v) w') → LeavesInM F n P fn tmps R (l.map mark) .returning w
  | [], w, _, _, hb, h => h w (fun _ _ _ _ h => h) hb
  | D :: r, w, hn, hd, hb, h => by
    rw [List.nodup_cons] at hn
    have hD := hd D (by simp)
    refine ⟨by simp, .inl ⟨D, _, rfl, run_takeDeferred hD.2, ?_⟩⟩
    have hlt := (Array.getElem?_eq_some_iff.1 hD.2).1
    refine leaves_marks r _ hn.2 (fun E hE => ⟨(hd E (by simp [hE])).1, ?_⟩) (hb.trans ?_) (fun w' hs hb' => h w' (fun k c t z hk => hs k c t z ?_) hb')
    · rw [World.putObj_heap_other (by rintro rfl; exact hn.1 hE)]
      exact (hd E (by simp [hE])).2
    · exact (Below.refl B w).grown (grownBy_putObj' w D _) (by omega) (fun k e => by cases e; exact hD.1)
    · rw [World.putObj_heap_other (fun e => ?_)]
      · exact hk
      · subst e; rw [hD.2] at hk; cases hk
end Go.Proofs.Ytidboecjllaofaa

/- What is walked plainly holds in a round of a range over a function, where no operation is a defer statement. -/
namespace Go.Proofs.Ytidboecjllaofaa
open Go.RowKit
set_option linter.unusedVariables false

section
variable {P : Program} {ops : Array Oper} {Q : Exit → Act → World → Prop} {l n : Nat}
theorem rowsIn_round {row : String} {args : Array Value} {w : World} {R : Value → World → Prop} (h : Rows P row args w R) : RowsIn (Fence.wide.inRound l) n P row args w R :=
  fun c cs _ => let ⟨v, w', r, s⟩ := h c cs; ⟨v, w', r, stepsIn_wide.2 s⟩
theorem wpIn_of_wp {o : Oper} {K : Act → World → Prop} {a : Act} {w : World} (hd : ∀ c, o.op ≠ .defer c) (h : o.wp P a w K Q) : o.wpIn (Fence.wide.inRound l) n P a w K Q := by
  refine ⟨fun _ _ => trivial, ?_⟩
  show o.uponIn (Fence.wide.inRound l) n P a K Q ((o.semAt (some l) a.eval).run P w)
  rw [Oper.semAt_some l a.eval o hd]
  unfold Oper.wp at h
  generalize (execOp a.eval o).run P w = r at *
  have hdp : ((Fence.wide.inRound l).depth.isSome = true → 1 ≤ n) := fun h => by cases h
  cases r with
  | ok x w' =>
    cases x with
    | value v => exact h
    | skip => exact h
    | «defer» d => exact h
    | enter f args => exact ⟨hdp, callsIn_wide.2 h⟩
    | row r args => exact ⟨hdp, rowsIn_round h⟩
    | _ => exact h.elim
  | halt x w' => cases x <;> first | exact h | exact h.elim
theorem opIn_of_op {i : Nat} {K : Act → World → Prop} {a : Act} {w : World} (hd : ∀ o, ops[i]? = some o → ∀ c, o.op ≠ .defer c) (hq : ¬ LetsOut Q) (h : wpOp P ops Q i K a w) : wpOpIn (Fence.wide.inRound l) n P ops Q i K a w := by
  unfold wpOp at h
  unfold wpOpIn
  cases ho : ops[i]? with
  | none => rw [ho] at h; exact h
  | some o =>
    rw [ho] at h
    simp only at h ⊢
    split at h
    · rename_i hw
      rw [if_pos hw]
      rcases h with h | h
      · exact wpIn_of_wp (hd o ho) h
      · exact absurd h.2 hq
    · rename_i hw
      rw [if_neg hw]
      exact ⟨fun _ _ => trivial, h⟩
theorem anyIn_of_any {md : Region.Mode} (hd : ∀ (i : Nat) (o : Oper), ops[i]? = some o → ∀ c, o.op ≠ .defer c) (hq : ¬ LetsOut Q) : ∀ (fuel : Nat) (listed : Array Bool) (a : Act) (w : World), wpAny P md ops Q fuel listed a w → wpAnyIn (Fence.wide.inRound l) n P md ops Q fuel listed a w
  | 0, _, _, _, h => h
  | fuel + 1, listed, a, w, h => ⟨h.1, fun i hi => opIn_of_op (hd i) hq (wpOp_mono (fun a' w' hh => anyIn_of_any hd hq fuel _ a' w' hh) (h.2 i hi))⟩
/-- No operation is a defer statement. -/
def noDeferB (ops : List Oper) : Bool := ops.all (fun (o : Oper) => match o.op with | .defer _ => false | _ => true)
theorem noDefer_spec {ops : List Oper} (h : noDeferB ops = true) : ∀ (i : Nat) (o : Oper), ops.toArray[i]? = some o → ∀ c, o.op ≠ .defer c := fun i o ho c hc => by
  have hm : o ∈ ops := by
    rw [List.getElem?_toArray] at ho
    exact List.mem_of_getElem? ho
  have := List.all_eq_true.1 h o hm
  rw [hc] at this
  cases this
/-- A region that draws its order, in a round: it is walked as anywhere. -/
theorem region_in_round {id : Nat} {a : Act} {w : World} {ops : List Oper} (hm : P.follows .mixedOrders = true) (hd : noDeferB ops = true) (hq : ¬ LetsOut Q)
    (h : wpAny P .any ops.toArray Q ops.toArray.size (Array.replicate ops.toArray.size false) a w.drew) : (Code.region id ops.toArray true).wpIn (Fence.wide.inRound l) n P Q a w :=
  wpIn_region_any hm (anyIn_of_any (noDefer_spec hd) hq _ _ _ _ h)
/-- All of it quiet in a class of worlds. -/
theorem any_of_quiet {C : World → Prop} {a : Act} {w : World} {ops : List Oper} (hB : Region.lexB .any ops.toArray = true) (hC : C w)
    (h : wpQuiet P ops.toArray C (fun a' => ∀ w', C w' → Q .normal a' w') ops a) : wpAny P .any ops.toArray Q ops.toArray.size (Array.replicate ops.toArray.size false) a w := by
  simp only [Region.lexB, Bool.and_eq_true] at hB
  refine wpAny_of_quiet (Q := fun a' => ∀ w', C w' → Q .normal a' w') (fun _ w' hw' h => h w' hw') _ _ _ _ hC ?_
  have := wpAnyQ_lex (P := P) (C := C) (md := .any) hB.1 ops.toArray.toList 0 (Array.replicate ops.toArray.size false) a (by simp) (by simpa using hB.2) (by simpa using h)
  simpa using this
/-- The head quiet, the tail in its one order. -/
theorem any_of_quiet_tail {C : World → Prop} {a : Act} {w : World} {l : List Oper} (n : Nat) (hB : Region.lexTailB .any l.toArray n = true) (hC : C w)
    (h : wpQuiet P l.toArray C (fun a' => ∀ w', C w' → wpList P l.toArray Q (l.drop n) a' w') (l.take n) a) : wpAny P .any l.toArray Q l.toArray.size (Array.replicate l.toArray.size false) a w := by
  simp only [Region.lexTailB, Bool.and_eq_true, decide_eq_true_eq] at hB
  obtain ⟨⟨⟨⟨hsel, hn⟩, hs⟩, hc⟩, hlex⟩ := hB
  have hn' : n < l.length := by simpa using hn
  have htl : (l.take n).length = n := by simp; omega
  have hdl : (l.drop n).length = l.toArray.size - n := by simp
  have inv0 : HeadInv .any l.toArray n (Array.replicate l.toArray.size false) :=
    ⟨by simp, fun j oj _ hl => (by rw [getD_replicate_false] at hl; cases hl), fun t _ ht => getD_in (by simpa using ht) (getD_replicate_false _ _)⟩
  have H := headQ_lex (md := .any) (C := C) (g := l.toArray.size - n) hsel hs hc hn (l.take n) 0 _ a (fun j hj => by
    have hj' : j < n := by rw [htl] at hj; exact hj
    simp [hj']) (by simpa using htl) inv0 (by rw [htl]; exact hlex) h
  have := any_of_headQ (Q' := Q) (g := l.toArray.size - n) (fun listed a' w' hw' hL => by
    have := wpAny_of_seq (md := .any) (Q' := Q) (l.drop n) n listed a' w' (fun j => by simp [List.getElem?_drop]) (by rw [hdl]; exact hL.1) (hL.2 w' hw')
    rwa [hdl] at this) _ _ _ _ hC H
  rw [htl, show n + (l.toArray.size - n) = l.toArray.size by omega] at this
  exact this
theorem round_later_all {l n : Nat} {id : Nat} {a : Act} {w : World} {ops : List Oper} (hm : P.follows .mixedOrders = true) (hd : noDeferB ops = true) (hq : ¬ LetsOut Q) (hB : Region.lexB .any ops.toArray = true)
    (h : wpQuiet P ops.toArray (fun w' => ∃ u : Later w, w' = u.world) (fun a' => ∀ w', Below w.heap.size w w' → Q .normal a' w') ops a) : (Code.region id ops.toArray true).wpIn (Fence.wide.inRound l) n P Q a w :=
  region_in_round hm hd hq (any_of_quiet (C := fun w' => ∃ u : Later w, w' = u.world) hB ⟨⟨_, (Below.refl _ _).drew⟩, rfl⟩ (wpQuiet_mono (fun a' hh w' hw' => by obtain ⟨u, rfl⟩ := hw'; exact hh _ u.below) _ _ h))
theorem round_later_tail {l n : Nat} {id : Nat} {a : Act} {w : World} {ops : List Oper} (m : Nat) (hm : P.follows .mixedOrders = true) (hd : noDeferB ops = true) (hq : ¬ LetsOut Q) (hB : Region.lexTailB .any ops.toArray m = true)
    (h : wpQuiet P ops.toArray (fun w' => ∃ u : Later w, w' = u.world) (fun a' => ∀ w', Below w.heap.size w w' → wpList P ops.toArray Q (ops.drop m) a' w') (ops.take m) a) : (Code.region id ops.toArray true).wpIn (Fence.wide.inRound l) n P Q a w :=
  region_in_round hm hd hq (any_of_quiet_tail (C := fun w' => ∃ u : Later w, w' = u.world) m hB ⟨⟨_, (Below.refl _ _).drew⟩, rfl⟩ (wpQuiet_mono (fun a' hh w' hw' => by obtain ⟨u, rfl⟩ := hw'; exact hh _ u.below) _ _ h))
theorem not_out_two {l : Nat} {rec : Loop} {R : Ending → World → Prop} : ¬ LetsOut (twoPost P l rec R) := fun ⟨_, _, h⟩ => h
theorem not_out_then {K : Act → World → Prop} {Q : Exit → Act → World → Prop} (h : ¬ LetsOut Q) : ¬ LetsOut (Exit.then K Q) := fun ⟨a, w, h'⟩ => h ⟨a, w, h'⟩
theorem not_out_block {k : Nat} {Q : Exit → Act → World → Prop} (h : ¬ LetsOut Q) : ¬ LetsOut (Exit.inBlock k Q) := fun ⟨a, w, h'⟩ => h ⟨a, w, h'⟩
end
end Go.Proofs.Ytidboecjllaofaa

/- What a range over a function keeps, in general. -/
namespace Go.Proofs.Ytidboecjllaofaa
open Go.RowKit Go.Shelf
set_option linter.unusedVariables false

/-- Numbers as integers. -/
def nats (l : List Nat) : List Int := l.map (fun (x : Nat) => (x : Int))
theorem natsInj {a b : List Nat} (h : nats a = nats b) : a = b := by
  unfold nats at h
  have h2 := congrArg (List.map Int.toNat) h
  simpa [Function.comp_def] using h2
/-- All cells are as they were. -/
theorem SameCells.refl (w : World) : SameCells w w := fun _ _ _ _ h => h
theorem SameCells.trans {a b c : World} (h : SameCells a b) (h' : SameCells b c) : SameCells a c := fun k x t z hk => h' k x t z (h k x t z hk)
theorem SameCells.below {a b c : World} (h : SameCells a b) (h' : Below b.heap.size b c) : SameCells a c := fun k x t z hk => (h'.block k (Array.getElem?_eq_some_iff.1 (h k x t z hk)).1).trans (h k x t z hk)
theorem blk_of_cell {w : World} {b o : Nat} {v : Value} (h : w.cell? ⟨b, o, none⟩ = some v) : ∃ c t z, w.heap[b]? = some (.cells c t z) := by
  unfold World.cell? at h
  cases ho : w.heap[b]? with
  | none => simp [ho] at h
  | some ob => cases ob <;> simp_all
theorem SameCells.cell {w w' : World} (h : SameCells w w') {b o : Nat} {v : Value} (hc : w.cell? ⟨b, o, none⟩ = some v) : w'.cell? ⟨b, o, none⟩ = some v := by
  obtain ⟨c, t, z, hb⟩ := blk_of_cell hc
  have hb' := h _ _ _ _ hb
  unfold World.cell? at hc ⊢
  rw [hb'] ; rw [hb] at hc; exact hc
theorem SlR.same {w w' : World} {a : Option Addr} {n sz : Nat} {xs : List Value} (h : SlR w a n sz xs) (hs : SameCells w w') (hsz : w.heap.size ≤ w'.heap.size) : SlR w' a n sz xs := by
  refine ⟨h.1, h.2.1, fun hn => ?_⟩
  obtain ⟨b, o, ha, hlt, hc⟩ := h.2.2 hn
  exact ⟨b, o, ha, Nat.lt_of_lt_of_le hlt hsz, fun i u hu => hs.cell (hc i u hu)⟩
theorem ER.same {α : Type} {enc : α → List Value} {k : Nat} {w w' : World} {a : Option Addr} {n : Nat} {l : List α} (h : ER enc k w a n l) (hs : SameCells w w') (hsz : w.heap.size ≤ w'.heap.size) : ER enc k w' a n l := ⟨h.1, h.2.same hs hsz⟩
theorem cells_set {W : World} {b : Nat} {t : TypeId} {x v : Value} (h : W.heap[b]? = some (.cells #[x] t)) : (W.setCell ⟨b, 0, none⟩ v).heap[b]? = some (.cells #[v] t) := by
  simp [World.setCell, Array.getElem?_modify, h]
theorem heap_set_ne {W : World} {b k : Nat} {v : Value} (h : k ≠ b) : (W.setCell ⟨b, 0, none⟩ v).heap[k]? = W.heap[k]? := by
  simp [World.setCell, Array.getElem?_modify, h.symm]
/-- What a range over the pairs keeps. -/
def RInv (lr D : Nat) (rec : Loop) (w wa W : World) : Prop := W.heap[lr]? = some (.loop rec) ∧ W.heap[D]? = some (.deferred (some [])) ∧ SameCells wa W ∧ wa.heap.size ≤ W.heap.size ∧ Below w.heap.size w W
theorem RInv.below {lr D : Nat} {rec : Loop} {w wa A B : World} (h : RInv lr D rec w wa A) (hb : Below A.heap.size A B) : RInv lr D rec w wa B :=
  ⟨(hb.block _ (Array.getElem?_eq_some_iff.1 h.1).1).trans h.1, (hb.block _ (Array.getElem?_eq_some_iff.1 h.2.1).1).trans h.2.1, h.2.2.1.below hb, Nat.le_trans h.2.2.2.1 hb.size, h.2.2.2.2.trans (hb.mono h.2.2.2.2.size)⟩
theorem SameCells.put {w w' : World} {l : Nat} {r r' : Loop} (h : SameCells w w') (hl : w'.heap[l]? = some (.loop r)) : SameCells w (w'.putObj l (.loop r')) := fun k c t z hk => by
  have h1 := h k c t z hk
  rw [World.putObj_heap_other (by rintro rfl; rw [hl] at h1; cases h1)]
  exact h1
/-- Where a round goes on: the record is ready again. -/
theorem RInv.ready {lr D : Nat} {rec RB : Loop} {w wa A1 W : World} (h1 : SameCells wa W) (h2 : wa.heap.size ≤ W.heap.size) (h3 : Below w.heap.size w W) (h4 : W.heap[lr]? = some (.loop RB)) (h5 : W.heap[D]? = some (.deferred (some []))) (hw : w.heap.size ≤ lr) : RInv lr D rec w wa (W.putObj lr (.loop rec)) :=
  ⟨World.putObj_heap_same (Array.getElem?_eq_some_iff.1 h4).1, (World.putObj_heap_other (by rintro rfl; rw [h5] at h4; cases h4)).trans h5, h1.put h4, by rw [World.putObj_size]; exact h2, h3.trans (belowK_b (w := w) (Nat.le_refl _) W lr _ _ hw h4 rfl rfl)⟩
/-- The marks of the loops so far. -/
def MK (w : World) (Ds : List Nat) (W : World) : Prop := Ds.Nodup ∧ ∀ D ∈ Ds, w.heap.size ≤ D ∧ W.heap[D]? = some (.deferred (some []))
theorem MK.below {w A B : World} {Ds : List Nat} (h : MK w Ds A) (hb : Below A.heap.size A B) : MK w Ds B := ⟨h.1, fun D hD => ⟨(h.2 D hD).1, (hb.block _ (Array.getElem?_eq_some_iff.1 (h.2 D hD).2).1).trans (h.2 D hD).2⟩⟩
theorem MK.put {w A : World} {Ds : List Nat} {l : Nat} {r r' : Loop} (h : MK w Ds A) (hl : A.heap[l]? = some (.loop r)) : MK w Ds (A.putObj l (.loop r')) := ⟨h.1, fun D hD => ⟨(h.2 D hD).1, (World.putObj_heap_other (by rintro rfl; rw [(h.2 D hD).2] at hl; cases hl)).trans (h.2 D hD).2⟩⟩
theorem MK.set {w A : World} {Ds : List Nat} {b : Nat} {t : TypeId} {x v : Value} (h : MK w Ds A) (hb : A.heap[b]? = some (.cells #[x] t)) : MK w Ds (A.setCell ⟨b, 0, none⟩ v) := ⟨h.1, fun D hD => ⟨(h.2 D hD).1, (heap_set_ne (by rintro rfl; rw [(h.2 D hD).2] at hb; cases hb)).trans (h.2 D hD).2⟩⟩
theorem MK.cons {w A : World} {Ds : List Nat} {D : Nat} (h : MK w Ds A) (hD : A.heap[D]? = some (.deferred (some []))) (hw : w.heap.size ≤ D) (hn : D ∉ Ds) : MK w (D :: Ds) A := ⟨List.nodup_cons.2 ⟨hn, h.1⟩, fun E hE => by
  rcases List.mem_cons.1 hE with rfl | hE
  · exact ⟨hw, hD⟩
  · exact h.2 E hE⟩
theorem SameCells.set {w A : World} {b : Nat} {v : Value} (h : SameCells w A) (hb : w.heap[b]? = none) : SameCells w (A.setCell ⟨b, 0, none⟩ v) := fun k c t z hk => by
  rw [heap_set_ne (by rintro rfl; rw [hb] at hk; cases hk)]
  exact h k c t z hk
theorem own_put {w : World} {base n sz l : Nat} {e : TypeId} {v : Value} {xs : List Value} {r r' : Loop} (h : w.ownsRow base e sz v n xs) (hl : w.heap[l]? = some (.loop r)) : (w.putObj l (.loop r')).ownsRow base e sz v n xs := by
  refine ⟨h.1, ?_⟩
  rcases h.2 with hn | ⟨g, cap, cur, rfl, hbase, hgg, rest⟩
  · exact .inl hn
  · refine .inr ⟨g, cap, cur, rfl, hbase, ?_, rest⟩
    rw [World.putObj_heap_other (by rintro rfl; rw [hl] at hgg; cases hgg)]
    exact hgg
theorem own_same {w w' : World} {base n sz : Nat} {e : TypeId} {v : Value} {xs : List Value} (h : w.ownsRow base e sz v n xs) (hs : SameCells w w') : w'.ownsRow base e sz v n xs := by
  refine ⟨h.1, ?_⟩
  rcases h.2 with hn | ⟨g, cap, cur, rfl, hbase, hgg, rest⟩
  · exact .inl hn
  · exact .inr ⟨g, cap, cur, rfl, hbase, hs _ _ _ _ hgg, rest⟩
theorem wpListIn_int {F : Fence} {N : Nat} {ops : Array Oper} {rest : List Oper} {o : Oper} {a : Act} {Q : Exit → Act → World → Prop} (w : World) (hgd : o.guard = none) (s x : Operand)
    (ho : o.op = .call { callee := .builtin .append, args := #[s, x], argTypes := #[52, 52] }) (base n B : Nat) (v : Value) (xs : List Value) (u : Int) (hs : a.eval s = v)
    (hown : w.ownsRow base 3 1 v n xs) (hx : a.eval x = .slice (some ⟨B, 0, none⟩) 1 1) (hc : w.cell? ⟨B, 0, none⟩ = some (.int .i64 u)) (hn : n ≤ 1000000) (hbase : base ≤ w.heap.size)
    (h : ∀ v' w', w'.ownsRow base 3 1 v' (n + 1) (xs ++ [.int .i64 u]) → w.grownBy w' v.ownBlock → Below base w w' → wpListIn F N Try.prog ops Q rest (a.put o.dst v') w') : wpListIn F N Try.prog ops Q (o :: rest) a w := by
  obtain ⟨i, hi1, hi2, hi3, hi4⟩ := info_parts infoInt
  have hmul : (n + 1) * 8 ≤ 1000001 * 8 := Nat.mul_le_mul (by omega) (by omega)
  refine wpListIn_append_own w hgd s x 52 ho base 3 i _ 1 8 Try.underlying52 hi1 hi2 hi3 hi4 rfl (by omega) v n xs hs hown ⟨B, 0, none⟩ 1 1 [.int .i64 u] hx (by simp) (fun j u' hu => by
      match j with
      | 0 =>
        simp only [List.getElem?_cons_zero, Option.some.injEq] at hu
        subst hu
        rw [Addr.add_lit, Nat.zero_add]; exact hc
      | j + 1 => simp at hu) (by simp [Value.oneCell']) (by unfold maxLen; omega) (by omega) hbase
    (fun v' w' h2 h3 _ => h v' w' h2 h3 ((Below.refl base w).grown h3 hbase (fun k hk => (hown.lt k hk).1)))
theorem own_otherX {w w' : World} {base n sz : Nat} {e : TypeId} {v : Value} {xs : List Value} (h : w.ownsRow base e sz v n xs) (hg : w.grownBy w' v.ownBlock) {t : TypeId} (ht : e ≠ t) : ∀ (B : Nat) cur z, w.heap[B]? = some (.cells cur t z) → w'.heap[B]? = some (.cells cur t z) := fun B cur z hB => by
  rw [hg.block B (Array.getElem?_eq_some_iff.1 hB).1 (fun e => ?_)]
  · exact hB
  · rcases h.2 with ⟨rfl, _⟩ | ⟨g, cap, cur', rfl, _, hgg, _⟩
    · simp [Value.ownBlock] at e
    · simp only [Value.ownBlock, Option.some.injEq] at e
      subst e
      rw [hgg] at hB
      simp only [Option.some.injEq, Obj.cells.injEq] at hB
      exact absurd hB.2.1 ht
end Go.Proofs.Ytidboecjllaofaa

/- The contacts that may change in a state: the iterator, MovesIn; the reference's MayChange and Moves. -/
namespace Go.Proofs.Ytidboecjllaofaa
open Go.RowKit
set_option linter.unusedVariables false
set_option linter.unusedSimpArgs false

/-- The contacts below i that may change. -/
def movU (m : Mac) (s i : Nat) : List Nat := (List.range i).filter (mayB m s)
theorem movU_yes {m : Mac} {s i : Nat} (h : mayB m s i = true) : movU m s (i + 1) = movU m s i ++ [i] := by unfold movU; rw [List.range_succ, List.filter_append]; simp [h]
theorem movU_no {m : Mac} {s i : Nat} (h : mayB m s i = false) : movU m s (i + 1) = movU m s i := by unfold movU; rw [List.range_succ, List.filter_append]; simp [h]
theorem movU_all (m : Mac) (s : Nat) : movU m s m.br.length = movL m s := rfl
/-- What the iterator needs of a world: the boxes of the machine and of the state, the guards. -/
def MovW (m : Mac) (s XM XS : Nat) (ab ag : Option Addr) (nb cb ng cg : Nat) (A : World) : Prop :=
  A.heap[XM]? = some (.cells #[.slice ab nb cb, .int .i64 m.st, .slice ag ng cg] 71) ∧ A.heap[XS]? = some (.cells #[.int .i64 (s : Int)] 77) ∧ GrR A ag ng m.gs
theorem MovW.below {m : Mac} {s XM XS : Nat} {ab ag : Option Addr} {nb cb ng cg : Nat} {A B : World} (h : MovW m s XM XS ab ag nb cb ng cg A) (hb : Below A.heap.size A B) : MovW m s XM XS ab ag nb cb ng cg B :=
  ⟨blk_below h.1 hb, blk_below h.2.1 hb, h.2.2.below hb⟩
set_option maxHeartbeats 2000000 in
set_option maxRecDepth 100000 in
theorem moves_calls (m : Mac) (s XM XS lr : Nat) (ab ag : Option Addr) (nb cb ng cg : Nat) (J : List Nat → World → Prop) (Jx : World → Prop) (W : World) (hm : MacV m) (hnb : m.br.length = nb) (hs : s < 64)
    (hJ : ∀ L A B, J L A → Below A.heap.size A B → J L B)
    (hQ : ∀ L A, J L A → MovW m s XM XS ab ag nb cb ng cg A)
    (hY : ∀ i A, i < nb → mayB m s i = true → J (movU m s i) A → YieldAt Fence.wide 1 Try.prog lr #[.int .i64 (i : Int)] A (fun e B => (e = .returned (.bool true) ∧ J (movU m s i ++ [i]) B) ∨ (e = .returned (.bool false) ∧ Jx B)))
    (h0 : J [] W) :
    Calls Try.prog 72 #[.func (.yield lr) #[] #[], .pointer (some ⟨XM, 0, none⟩), .pointer (some ⟨XS, 0, none⟩)] W (fun e B => (∃ v, e = .returned v) ∧ (J (movL m s) B ∨ Jx B)) := by
  have HJ := Lib.hid hJ
  have HY := Lib.hid hY
  have HQ := Lib.hid hQ
  have HN := Lib.hid hnb
  have hn6 : nb ≤ 6 := by rw [← hnb]; exact hm.n1
  have HMC := Lib.hid (fun (i : Nat) (hi : i < nb) (A : World) (hg : GrR A ag ng m.gs) => mayChange_any m s i ab ag nb cb ng cg A hm hg hs (by omega))
  clear hJ hY hQ hm hnb
  have hq := HQ.out _ _ h0
  have q0 := blk_cell hq.1 (i := 0) rfl
  have lq := blk_lt hq.1
  clear hq
  go_enter Try.func72, Try.ntmps72
  go_wp2_with fail
  clear q0 lq
  go_loopw [9] (fun x wr => ∃ i : Nat, x = .int .i64 (i : Int) ∧ i ≤ nb ∧ Hid (J (movU m s i) wr)) (fun x _ => nb - (intOf x).toNat)
  case atStart => exact ⟨0, rfl, Nat.zero_le _, Lib.hid h0⟩
  case round =>
    obtain ⟨i, rfl, hi, hJi⟩ := hrel
    have i0 : (0 : Int) ≤ (i : Int) := by omega
    by_cases hlt : i < nb
    · have i1 : (i : Int) < (nb : Int) := by omega
      have hq := HQ.out _ _ hJi.out
      have q0 := blk_cell hq.1 (i := 0) rfl
      have q1 := blk_cell hq.1 (i := 1) rfl
      have q2 := blk_cell hq.1 (i := 2) rfl
      have q3 := blk_cell hq.2.1 (i := 0) rfl
      have lq := blk_lt hq.1
      have lq2 := blk_lt hq.2.1
      have HMX := Lib.hid (HMC.out i hlt wr hq.2.2)
      clear hq
      obtain ⟨mb, hmb⟩ : ∃ b, b = mayB m s i := ⟨_, rfl⟩
      rw [← hmb] at HMX
      have HMB := Lib.hid hmb
      clear hmb
      cases mb
      · go_wp2_with fail
        refine (HMX.out).mono ?_
        rintro e5 w5 ⟨rfl, hb5⟩
        have hJ5 := Lib.hid (HJ.out _ _ _ hJi.out hb5)
        clear hb5 q0 q1 q2 q3 lq lq2 HMX hJi
        go_wp2_with fail
        go_roundw
        case rel => exact ⟨i + 1, by go_num, by omega, by rw [movU_no HMB.out.symm]; exact hJ5⟩
        case measure => simp [intOf]; omega
      · go_upto_region 3 with (fail)
        go_cut [21] from 12 to 21 (fun v21 wx => (v21 = .bool false ∧ J (movU m s i ++ [i]) wx) ∨ (v21 = .bool true ∧ Jx wx))
        case first =>
          refine (wpIn_wide (n := 2)).1 ?_
          gi_wp2
          refine ⟨trivial, CallsIn.mono (callsIn_wide.2 HMX.out) ?_⟩
          rintro e5 w5 ⟨rfl, hb5⟩
          have hJ5 := HJ.out _ _ _ hJi.out hb5
          obtain ⟨fn, tmps, assign, body, hy, hR⟩ := HY.out i w5 hlt HMB.out.symm hJ5
          gi_wp2
          refine hR.mono ?_
          rintro e W' (⟨rfl, hJ2⟩ | ⟨rfl, hJx⟩)
          · gi_wp2
            go_meet
            exact .inl ⟨rfl, hJ2⟩
          · gi_wp2
            go_meet
            exact .inr ⟨rfl, hJx⟩
        case rest =>
          rcases hcut with ⟨rfl, hJ2⟩ | ⟨rfl, hJ2⟩
          · have hJ2 := Lib.hid hJ2
            go_wp2
            go_roundw
            case rel => exact ⟨i + 1, by go_num, by omega, by rw [movU_yes HMB.out.symm]; exact hJ2⟩
            case measure => simp [intOf]; omega
          · go_wp2
            refine bodyPost_ret (results_none rfl _ _ _) rfl ?_
            exact ⟨⟨_, rfl⟩, .inr hJ2⟩
    · obtain rfl : nb = i := by omega
      have hJe := hJi.out
      have e : movU m s nb = movL m s := by rw [← HN.out]; exact movU_all m s
      rw [e] at hJe
      clear hJi e
      go_wp2
      go_end0
      exact ⟨⟨_, rfl⟩, .inl hJe⟩
end Go.Proofs.Ytidboecjllaofaa

/- The contacts that may change, collected; MovesIn. -/
namespace Go.Proofs.Ytidboecjllaofaa
open Go.RowKit Go.Shelf
set_option linter.unusedVariables false
set_option linter.unusedSimpArgs false
attribute [local go_sem] Oper.semAt_some

theorem cf_moves (args : Array Value) (w : World) : (callFunc 72 args).run Try.prog w = .ok (.enter 72 args) w := by kernel_rfl
theorem MovW.same {m : Mac} {s XM XS : Nat} {ab ag : Option Addr} {nb cb ng cg : Nat} {A B : World} (h : MovW m s XM XS ab ag nb cb ng cg A) (hs : SameCells A B) (hz : A.heap.size ≤ B.heap.size) : MovW m s XM XS ab ag nb cb ng cg B :=
  ⟨hs _ _ _ _ h.1, hs _ _ _ _ h.2.1, ER.same h.2.2 hs hz⟩
theorem movU_len (m : Mac) (s i : Nat) : (movU m s i).length ≤ i := by
  unfold movU
  exact Nat.le_trans (List.length_filter_le _ _) (by simp)
end Go.Proofs.Ytidboecjllaofaa

/- MovesIn; the reference's MayChange and Moves. -/
namespace Go.Proofs.Ytidboecjllaofaa
open Go.RowKit
set_option linter.unusedVariables false
set_option linter.unusedSimpArgs false

theorem moves_any (m : Mac) (s : Nat) (ab ag : Option Addr) (nb cb ng cg : Nat) (w : World) (hg : GrR w ag ng m.gs) :
    Calls Try.prog 54 #[.agg #[.slice ab nb cb, .int .i64 m.st, .slice ag ng cg], .int .i64 (s : Int)] w fun e' w' => ∃ XM XS, e' = .returned (.func (.func 72) #[] #[.pointer (some ⟨XM, 0, none⟩), .pointer (some ⟨XS, 0, none⟩)]) ∧ Below w.heap.size w w' ∧ MovW m s XM XS ab ag nb cb ng cg w' := by
  have HG := Lib.hid hg
  clear hg
  go_enter Try.func54, Try.ntmps54
  go_wp2
  obtain ⟨w1, hW⟩ : ∃ w1, w1 = (w.alloc (Obj.cells #[.slice ab nb cb, .int .i64 m.st, .slice ag ng cg] 71)).alloc (Obj.cells #[.int .i64 (s : Int)] 77) := ⟨_, rfl⟩
  rw [← hW]
  have hb1 : Below w.heap.size w w1 := by rw [hW]; (repeat' (first | (with_reducible exact Below.refl _ _) | (with_reducible assumption) | (with_reducible refine Below.drewN ?_ _) | (with_reducible refine Below.alloc ?_ ?_ _) | (with_reducible refine Below.drew ?_) | (with_reducible refine Below.setCell ?_ ?_ _) | (with_reducible refine Below.step (by assumption) ?_ ?_) | (with_reducible exact And.left (by assumption)) | go_size))
  have k1 : w1.heap[w.heap.size]? = some (.cells #[.slice ab nb cb, .int .i64 m.st, .slice ag ng cg] 71) := by rw [hW, Below.heap_alloc _ _ _ (by simp)]; exact heap_alloc_new _ _
  have k2 : w1.heap[w.heap.size + 1]? = some (.cells #[.int .i64 (s : Int)] 77) := by
    rw [hW]
    have := heap_alloc_new (w.alloc (Obj.cells #[.slice ab nb cb, .int .i64 m.st, .slice ag ng cg] 71)) (Obj.cells #[.int .i64 (s : Int)] 77)
    simpa using this
  refine bodyPost_ret (v := .func (.func 72) #[] #[.pointer (some ⟨w.heap.size, 0, none⟩), .pointer (some ⟨w.heap.size + 1, 0, none⟩)]) (by simp [results, Try.results54, go_sem]) rfl ⟨_, _, rfl, hb1, k1, k2, HG.out.below hb1⟩
/-- The error of a state of a machine. -/
def movE (m : Mac) (s : Int) : Int := firstErr [(macE m).2, staE m.br.length s]
theorem and_eq : ∀ a < 64, ∀ s < 64, (bits .and .i64 ((a : Nat) : Int) ((s : Nat) : Int) == (a : Int)) = decide (a &&& s = a) := by decide +kernel
end Go.Proofs.Ytidboecjllaofaa
