import Derived.RangeFuncNested
import Derived.RangeFuncBound
import Derived.RangeFuncCalls
import Derived.RangeFuncLeaves
import Derived.OwnWalkIn
import Derived.TacticsInMore
import Derived.Deep.QuietTactic
import Derived.LoopNIn
import Derived.LoopIn
import Derived.Shelf.RegionOpen
import Derived.Deep.CutRange
import Derived.Maps.OwnSet
import Derived.Maps.OwnOps
import Derived.DeepKeys4
import Derived.Test.YtdjinmieogpgcaaGreatMTChk
/- A regulator's tick: the reference. -/
namespace Go.Proofs.YtdjinmieogpgcaaGreat
open Go.RowKit
set_option linter.unusedVariables false
set_option linter.unusedSimpArgs false
set_option maxHeartbeats 1000000 in
set_option maxRecDepth 100000 in
theorem rActed_any (r : Reg) (m : Mom) (v : Int) (w : World) (hr : RegV r) (hm : MomV r m) :
    Calls Tryz.prog 47 #[.agg #[.int .i64 r.tgt, .int .i64 r.band, .int .i64 r.dly, .int .i64 r.stp, .int .i64 r.lo, .int .i64 r.hi], .agg #[.int .i64 m.tap, .int .i64 m.wait], .int .i64 v] w fun e' w' => e' = .returned (.agg #[.int .i64 (act r m v).tap, .int .i64 (act r m v).wait]) ∧ Below w.heap.size w w' := by
 have HWI := Lib.hid (fun (n lo hi : Int) w' => bwithin_any n lo hi w')
 have h1 := hr.t0
 have h2 := hr.t1
 have h3 := hr.b0
 have h4 := hr.b1
 have h5 := hr.d0
 have h6 := hr.d1
 have h7 := hr.l0
 have h8 := hr.l1
 have h9 := hr.h1
 obtain ⟨⟨m1, m2⟩, m3, m4⟩ := hm
 have HA := Lib.hid (show act r m v = if r.tgt - r.band ≤ v ∧ v ≤ r.tgt + r.band then ⟨m.tap, 0⟩
 else if v < r.tgt then (if -r.dly < min m.wait 0 - 1 then ⟨m.tap, min m.wait 0 - 1⟩ else ⟨min (m.tap + 1) r.hi, 0⟩)
 else (if max m.wait 0 + 1 < r.dly then ⟨m.tap, max m.wait 0 + 1⟩ else ⟨max (m.tap - 1) r.lo, 0⟩) from rfl)
 obtain ⟨R, hR⟩ : ∃ R, R = act r m v := ⟨_, rfl⟩
 rw [← hR] at HA ⊢
 obtain ⟨tgt, band, dly, stp, lo, hi⟩ := r
 obtain ⟨tap, wait⟩ := m
 simp only at h1 h2 h3 h4 h5 h6 h7 h8 h9 m1 m2 m3 m4 HA ⊢
 clear hR hr
 have w1 : IntKind.i64.wrap (tgt + band) = tgt + band := by rw [IntKind.wrap_i64]; omega
 have w2 : IntKind.i64.wrap (tgt - band) = tgt - band := by rw [IntKind.wrap_i64]; omega
 have w5 : IntKind.i64.wrap (tap - 1) = tap - 1 := by rw [IntKind.wrap_i64]; omega
 have w7 : IntKind.i64.wrap (-dly) = -dly := by rw [IntKind.wrap_i64]; omega
 have w8 : IntKind.i64.wrap (tap + 1) = tap + 1 := by rw [IntKind.wrap_i64]; omega
 by_cases hw : tgt - band ≤ v ∧ v ≤ tgt + band
 ·have hwv : wi v (tgt - band) (tgt + band) = true := wi_iff.2 hw
  have HV := Lib.hid (show R = ⟨tap, 0⟩ from by rw [HA.out, if_pos hw])
  clear HA hw
  go_enter Tryz.func47, Tryz.ntmps47
  go_wp2_with (go_at_call 45; refine (HWI.out _ _ _ _).mono ?_; rintro e5 w5 ⟨rfl, rfl⟩)
  refine bodyPost_ret (v := .agg #[.int .i64 tap, .int .i64 0]) (by simp [results, Tryz.results47, go_sem]) rfl ⟨by rw [HV.out], by (first|exact bwg|go_size)⟩
 ·have hwv : wi v (tgt - band) (tgt + band) = false := by rw [Bool.eq_false_iff]; intro h; exact hw (wi_iff.1 h)
  by_cases hu : v < tgt
  ·have HV := Lib.hid (show R = if -dly < min wait 0 - 1 then ⟨tap, min wait 0 - 1⟩ else ⟨min (tap + 1) hi, 0⟩ from by rw [HA.out, if_neg hw, if_pos hu])
   clear HA hw
   by_cases h0 : wait ≤ 0
   ·have mn : min wait 0 = wait := by omega
    have w9 : IntKind.i64.wrap (wait - 1) = wait - 1 := by rw [IntKind.wrap_i64]; omega
    by_cases hd : -dly < wait - 1
    ·have HV := Lib.hid (show R = ⟨tap, wait - 1⟩ from by rw [HV.out, mn, if_pos hd])
     go_enter Tryz.func47, Tryz.ntmps47
     go_wp2_with (go_at_call 45; refine (HWI.out _ _ _ _).mono ?_; rintro e5 w5 ⟨rfl, rfl⟩)
     all_goals
      refine bodyPost_ret (by simp [results, Tryz.results47, go_sem]; rfl) rfl ⟨by first | (rw [HV.out]; done) | (rw [HV.out]; simp; done) | (rw [HV.out]; simp; omega), by (first|exact bwg|go_size)⟩
    ·have HV := Lib.hid (show R = ⟨min (tap + 1) hi, 0⟩ from by rw [HV.out, mn, if_neg hd])
     go_enter Tryz.func47, Tryz.ntmps47
     go_wp2_with (go_at_call 45; refine (HWI.out _ _ _ _).mono ?_; rintro e5 w5 ⟨rfl, rfl⟩)
     all_goals
      refine bodyPost_ret (by simp [results, Tryz.results47, go_sem]; rfl) rfl ⟨by first | (rw [HV.out]; done) | (rw [HV.out]; simp; done) | (rw [HV.out]; simp; omega), by (first|exact bwg|go_size)⟩
   ·have mn : min wait 0 = 0 := by omega
    have w9 : IntKind.i64.wrap (0 - 1) = -1 := by rw [IntKind.wrap_i64]; omega
    by_cases hd : 1 < dly
    ·have HV := Lib.hid (show R = ⟨tap, -1⟩ from by rw [HV.out, mn, if_pos (by omega)]; rfl)
     go_enter Tryz.func47, Tryz.ntmps47
     go_wp2_with (go_at_call 45; refine (HWI.out _ _ _ _).mono ?_; rintro e5 w5 ⟨rfl, rfl⟩)
     all_goals
      refine bodyPost_ret (by simp [results, Tryz.results47, go_sem]; rfl) rfl ⟨by first | (rw [HV.out]; done) | (rw [HV.out]; simp; done) | (rw [HV.out]; simp; omega), by (first|exact bwg|go_size)⟩
    ·exfalso; omega
  ·have HV := Lib.hid (show R = if max wait 0 + 1 < dly then ⟨tap, max wait 0 + 1⟩ else ⟨max (tap - 1) lo, 0⟩ from by rw [HA.out, if_neg hw, if_neg hu])
   clear HA hw
   by_cases h0 : wait ≤ 0
   ·have mn : max wait 0 = 0 := by omega
    have w9 : IntKind.i64.wrap (0 + 1) = 1 := by rw [IntKind.wrap_i64]; omega
    by_cases hd : 1 < dly
    ·have HV := Lib.hid (show R = ⟨tap, 1⟩ from by rw [HV.out, mn, if_pos (by omega)]; rfl)
     go_enter Tryz.func47, Tryz.ntmps47
     go_wp2_with (go_at_call 45; refine (HWI.out _ _ _ _).mono ?_; rintro e5 w5 ⟨rfl, rfl⟩)
     all_goals
      refine bodyPost_ret (by simp [results, Tryz.results47, go_sem]; rfl) rfl ⟨by first | (rw [HV.out]; done) | (rw [HV.out]; simp; done) | (rw [HV.out]; simp; omega), by (first|exact bwg|go_size)⟩
    ·have HV := Lib.hid (show R = ⟨max (tap - 1) lo, 0⟩ from by rw [HV.out, mn, if_neg (by omega)])
     go_enter Tryz.func47, Tryz.ntmps47
     go_wp2_with (go_at_call 45; refine (HWI.out _ _ _ _).mono ?_; rintro e5 w5 ⟨rfl, rfl⟩)
     all_goals
      refine bodyPost_ret (by simp [results, Tryz.results47, go_sem]; rfl) rfl ⟨by first | (rw [HV.out]; done) | (rw [HV.out]; simp; done) | (rw [HV.out]; simp; omega), by (first|exact bwg|go_size)⟩
   ·have mn : max wait 0 = wait := by omega
    have w9 : IntKind.i64.wrap (wait + 1) = wait + 1 := by rw [IntKind.wrap_i64]; omega
    by_cases hd : wait + 1 < dly
    ·have HV := Lib.hid (show R = ⟨tap, wait + 1⟩ from by rw [HV.out, mn, if_pos hd])
     go_enter Tryz.func47, Tryz.ntmps47
     go_wp2_with (go_at_call 45; refine (HWI.out _ _ _ _).mono ?_; rintro e5 w5 ⟨rfl, rfl⟩)
     all_goals
      refine bodyPost_ret (by simp [results, Tryz.results47, go_sem]; rfl) rfl ⟨by first | (rw [HV.out]; done) | (rw [HV.out]; simp; done) | (rw [HV.out]; simp; omega), by (first|exact bwg|go_size)⟩
    ·have HV := Lib.hid (show R = ⟨max (tap - 1) lo, 0⟩ from by rw [HV.out, mn, if_neg hd])
     go_enter Tryz.func47, Tryz.ntmps47
     go_wp2_with (go_at_call 45; refine (HWI.out _ _ _ _).mono ?_; rintro e5 w5 ⟨rfl, rfl⟩)
     all_goals
      refine bodyPost_ret (by simp [results, Tryz.results47, go_sem]; rfl) rfl ⟨by first | (rw [HV.out]; done) | (rw [HV.out]; simp; done) | (rw [HV.out]; simp; omega), by (first|exact bwg|go_size)⟩
/- A range over a method value or a closure, whose rounds may leave: a round, the statement, and a return behind many such statements. -/
def twoPost (P : Program) (l : Nat) (rec : Loop) (R : Ending → World → Prop) : Exit → Act → World → Prop
 | .normal, _, W => W.heap[l]? = some (.loop { rec with state := .busy }) ∧ R (.returned (.bool true)) (W.putObj l (.loop rec))
 | .ret, _, W => W.heap[l]? = some (.loop { rec with state := .busy }) ∧ R (.returned (.bool false)) (W.putObj l (.loop { rec with state := .done, pending := some .ret }))
 | _, _, _ => False
theorem yield_two {P : Program} {m l : Nat} {xs : Array Value} {W : World} {R : Ending → World → Prop} {rec : Loop} (hl : W.heap[l]? = some (.loop rec)) (hst : rec.state = .ready) (hp : rec.pending = none) (hsz : xs.size = rec.params.size)
    (h : rec.assign.wpIn (Fence.wide.inRound l) m P (Exit.then (fun a1 W1 => W1.heap[l]? = some (.loop rec) ∧ rec.body.wpIn (Fence.wide.inRound l) m P (twoPost P l rec R) a1 (W1.putObj l (.loop { rec with state := .busy }))) (fun _ _ _ => False))
     { tmps := (rec.params.zip xs).foldl (fun t (p, v) => t.setIfInBounds p v) rec.tmps, defers := [] } W) :
    YieldAt Fence.wide m P l xs W R := by
 refine ⟨_, _, _, _, run_yield hl hsz, roundIn_of_wpIn trivial (wpIn_mono h ?_)⟩
 intro e a1 W1 hq
 cases e with
 | normal =>
  obtain ⟨h1, h2⟩ := hq
  refine ⟨_, run_beginRound h1 hst, wpIn_mono h2 ?_⟩
  intro e2 a2 W2 hq2
  cases e2 with
  | normal =>
   obtain ⟨h3, h4⟩ := hq2
   refine ⟨_, _, run_endRound none h3, ?_⟩
   have : ({ { rec with state := .busy } with state := if (none : Option Code).isNone then .ready else .done, pending := none } : Loop) = rec := by
    cases rec; simp_all
   simp only [this]
   exact h4
  | ret =>
   obtain ⟨h3, h4⟩ := hq2
   refine ⟨_, _, run_endRound (some .ret) h3, ?_⟩
   exact h4
  | _ => exact hq2.elim
 | _ => exact hq.elim
theorem range_two {P : Program} {n : Nat} {g : Operand} {ps : Array Tmp} {assign body : Code} {Q : Exit → Act → World → Prop} {a : Act} {w : World} {gf : Nat} {fst lst : Array Value}
    (hg : a.eval g = .func (.func gf) fst lst) (eg : ∀ args w, (callFunc gf args).run P w = .ok (.enter gf args) w)
    (h : ∀ rec : Loop, rec.state = .ready → rec.pending = none → rec.params = ps → rec.tmps = a.tmps → rec.assign = assign → rec.body = body →
     CallsIn Fence.wide (n - 1) P gf (fst ++ #[.func (.yield (w.heap.size + 1)) #[] #[]] ++ lst) ((w.alloc (.deferred (some []))).alloc (.loop rec)) fun e W => (∃ v, e = .returned v) ∧
      ((W.heap[w.heap.size + 1]? = some (.loop rec) ∧
       Q .normal { a with defers := { target := .collected w.heap.size, args := #[] } :: a.defers } (W.putObj (w.heap.size + 1) (.loop { rec with state := .exhausted }))) ∨
      (W.heap[w.heap.size + 1]? = some (.loop { rec with state := .done, pending := some .ret }) ∧
       Q .ret { a with defers := { target := .collected w.heap.size, args := #[] } :: a.defers } (W.putObj (w.heap.size + 1) (.loop { rec with state := .exhausted, pending := some .ret }))))) :
    (Code.rangeFunc g ps assign body).wpIn Fence.wide n P Q a w := by
 refine wpIn_rangeFunc ?_
 intro fn hfn
 obtain ⟨W1, hW1⟩ : ∃ W1, W1 = (w.alloc (.deferred (some []))).alloc (.loop { state := .ready, pending := none, fn := fn, tmps := a.tmps, params := ps, assign := assign, body := body, defers := w.heap.size }) := ⟨_, rfl⟩
 refine ⟨w.heap.size + 1, [{ target := .collected w.heap.size, args := #[] }], W1, { target := .fn (.func gf) lst, args := fst ++ #[.func (.yield (w.heap.size + 1)) #[] #[]] }, W1, gf, fst ++ #[.func (.yield (w.heap.size + 1)) #[] #[]] ++ lst, W1, by rw [hW1]; exact run_enterLoop_outer _ _ _ _ _, ?_, fun _ _ => trivial, ?_, fun h => by simp [Fence.wide] at h, ?_⟩
 ·simp only [resolve, hg]
  simp [go_sem]
 ·simp [invoke, go_sem, eg]
 ·rw [hW1]
  refine (h _ rfl rfl rfl rfl rfl rfl).mono ?_
  rintro e W ⟨⟨v, rfl⟩, (⟨h1, h2⟩ | ⟨h1, h2⟩)⟩
  ·exact ⟨none, _, by have := run_endLoop (P := P) h1 (by simp); exact this, h2⟩
  ·refine ⟨some .ret, _, by have := run_endLoop (P := P) h1 (by simp); exact this, ?_⟩
   exact wpIn_ret h2
def SameCells (A B : World) : Prop := ∀ (k : Nat) c t z, A.heap[k]? = some (.cells c t z) → B.heap[k]? = some (.cells c t z)
def mark (D : Nat) : Deferred := { target := .collected D, args := #[] }
theorem leaves_marks {P : Program} {F : Fence} {n : Nat} {fn : Func} {tmps : Array Value} {R : Ending → World → Prop} {B : Nat} {w0 : World} : ∀ (l : List Nat) (w : World), l.Nodup → (∀ D ∈ l, B ≤ D ∧ w.heap[D]? = some (.deferred (some []))) → Below B w0 w →
    (∀ w', SameCells w w' → Below B w0 w' → ∃ v, (results fn tmps).run P w' = .ok v w' ∧ R (.returned v) w') → LeavesInM F n P fn tmps R (l.map mark) .returning w
 | [], w, _, _, hb, h => h w (fun _ _ _ _ h => h) hb
 | D :: r, w, hn, hd, hb, h => by
  rw [List.nodup_cons] at hn
  have hD := hd D (by simp)
  refine ⟨by simp, .inl ⟨D, _, rfl, run_takeDeferred hD.2, ?_⟩⟩
  have hlt := (Array.getElem?_eq_some_iff.1 hD.2).1
  refine leaves_marks r _ hn.2 (fun E hE => ⟨(hd E (by simp [hE])).1, ?_⟩) (hb.trans ?_) (fun w' hs hb' => h w' (fun k c t z hk => hs k c t z ?_) hb')
  ·rw [World.putObj_heap_other (by rintro rfl; exact hn.1 hE)]
   exact (hd E (by simp [hE])).2
  ·exact (Below.refl B w).grown (grownBy_putObj' w D _) (by omega) (fun k e => by cases e; exact hD.1)
  ·rw [World.putObj_heap_other (fun e => ?_)]
   ·exact hk
   ·subst e; rw [hD.2] at hk; cases hk
/- What is walked plainly holds in a round of a range over a function, where no operation is a defer statement. -/
section
variable {P : Program} {ops : Array Oper} {Q : Exit → Act → World → Prop} {l n : Nat}
theorem rowsIn_round {row : String} {args : Array Value} {w : World} {R : Value → World → Prop} (h : Rows P row args w R) : RowsIn (Fence.wide.inRound l) n P row args w R :=
 fun c cs _ => let ⟨v, w', r, s⟩ := h c cs; ⟨v, w', r, stepsIn_wide.2 s⟩
theorem wpIn_of_wp {o : Oper} {K : Act → World → Prop} {a : Act} {w : World} (hd : ∀ c, o.op ≠ .defer c) (h : o.wp P a w K Q) : o.wpIn (Fence.wide.inRound l) n P a w K Q := by
 refine ⟨fun _ _ => trivial, ?_⟩
 show o.uponIn (Fence.wide.inRound l) n P a K Q ((o.semAt (some l) a.eval).run P w)
 rw [Oper.semAt_some l a.eval o hd]
 unfold Oper.wp at h
 generalize (execOp a.eval o).run P w = r at *
 have hdp : ((Fence.wide.inRound l).depth.isSome = true → 1 ≤ n) := fun h => by cases h
 cases r with
 | ok x w' =>
  cases x with
  | value v => exact h
  | skip => exact h
  | «defer» d => exact h
  | enter f args => exact ⟨hdp, callsIn_wide.2 h⟩
  | row r args => exact ⟨hdp, rowsIn_round h⟩
  | _ => exact h.elim
 | halt x w' => cases x <;> first | exact h | exact h.elim
theorem opIn_of_op {i : Nat} {K : Act → World → Prop} {a : Act} {w : World} (hd : ∀ o, ops[i]? = some o → ∀ c, o.op ≠ .defer c) (hq : ¬ LetsOut Q) (h : wpOp P ops Q i K a w) : wpOpIn (Fence.wide.inRound l) n P ops Q i K a w := by
 unfold wpOp at h
 unfold wpOpIn
 cases ho : ops[i]? with
 | none => rw [ho] at h; exact h
 | some o =>
  rw [ho] at h
  simp only at h ⊢
  split at h
  ·rename_i hw
   rw [if_pos hw]
   rcases h with h | h
   ·exact wpIn_of_wp (hd o ho) h
   ·exact absurd h.2 hq
  ·rename_i hw
   rw [if_neg hw]
   exact ⟨fun _ _ => trivial, h⟩
theorem anyIn_of_any {md : Region.Mode} (hd : ∀ (i : Nat) (o : Oper), ops[i]? = some o → ∀ c, o.op ≠ .defer c) (hq : ¬ LetsOut Q) : ∀ (fuel : Nat) (listed : Array Bool) (a : Act) (w : World), wpAny P md ops Q fuel listed a w → wpAnyIn (Fence.wide.inRound l) n P md ops Q fuel listed a w
 | 0, _, _, _, h => h
 | fuel + 1, listed, a, w, h => ⟨h.1, fun i hi => opIn_of_op (hd i) hq (wpOp_mono (fun a' w' hh => anyIn_of_any hd hq fuel _ a' w' hh) (h.2 i hi))⟩
def noDeferB (ops : List Oper) : Bool := ops.all (fun (o : Oper) => match o.op with | .defer _ => false | _ => true)
theorem noDefer_spec {ops : List Oper} (h : noDeferB ops = true) : ∀ (i : Nat) (o : Oper), ops.toArray[i]? = some o → ∀ c, o.op ≠ .defer c := fun i o ho c hc => by
 have hm : o ∈ ops := by
  rw [List.getElem?_toArray] at ho
  exact List.mem_of_getElem? ho
 have := List.all_eq_true.1 h o hm
 rw [hc] at this
 cases this
theorem region_in_round {id : Nat} {a : Act} {w : World} {ops : List Oper} (hm : P.follows .mixedOrders = true) (hd : noDeferB ops = true) (hq : ¬ LetsOut Q)
    (h : wpAny P .any ops.toArray Q ops.toArray.size (Array.replicate ops.toArray.size false) a w.drew) : (Code.region id ops.toArray true).wpIn (Fence.wide.inRound l) n P Q a w :=
 wpIn_region_any hm (anyIn_of_any (noDefer_spec hd) hq _ _ _ _ h)
theorem any_of_quiet_tail {C : World → Prop} {a : Act} {w : World} {l : List Oper} (n : Nat) (hB : Region.lexTailB .any l.toArray n = true) (hC : C w)
    (h : wpQuiet P l.toArray C (fun a' => ∀ w', C w' → wpList P l.toArray Q (l.drop n) a' w') (l.take n) a) : wpAny P .any l.toArray Q l.toArray.size (Array.replicate l.toArray.size false) a w := by
 simp only [Region.lexTailB, Bool.and_eq_true, decide_eq_true_eq] at hB
 obtain ⟨⟨⟨⟨hsel, hn⟩, hs⟩, hc⟩, hlex⟩ := hB
 have hn' : n < l.length := by simpa using hn
 have htl : (l.take n).length = n := by simp; omega
 have hdl : (l.drop n).length = l.toArray.size - n := by simp
 have inv0 : HeadInv .any l.toArray n (Array.replicate l.toArray.size false) :=
  ⟨by simp, fun j oj _ hl => (by rw [getD_replicate_false] at hl; cases hl), fun t _ ht => getD_in (by simpa using ht) (getD_replicate_false _ _)⟩
 have H := headQ_lex (md := .any) (C := C) (g := l.toArray.size - n) hsel hs hc hn (l.take n) 0 _ a (fun j hj => by
  have hj' : j < n := by rw [htl] at hj; exact hj
  simp [hj']) (by simpa using htl) inv0 (by rw [htl]; exact hlex) h
 have := any_of_headQ (Q' := Q) (g := l.toArray.size - n) (fun listed a' w' hw' hL => by
  have := wpAny_of_seq (md := .any) (Q' := Q) (l.drop n) n listed a' w' (fun j => by simp [List.getElem?_drop]) (by rw [hdl]; exact hL.1) (hL.2 w' hw')
  rwa [hdl] at this) _ _ _ _ hC H
 rw [htl, show n + (l.toArray.size - n) = l.toArray.size by omega] at this
 exact this
theorem round_later_tail {l n : Nat} {id : Nat} {a : Act} {w : World} {ops : List Oper} (m : Nat) (hm : P.follows .mixedOrders = true) (hd : noDeferB ops = true) (hq : ¬ LetsOut Q) (hB : Region.lexTailB .any ops.toArray m = true)
    (h : wpQuiet P ops.toArray (fun w' => ∃ u : Later w, w' = u.world) (fun a' => ∀ w', Below w.heap.size w w' → wpList P ops.toArray Q (ops.drop m) a' w') (ops.take m) a) : (Code.region id ops.toArray true).wpIn (Fence.wide.inRound l) n P Q a w :=
 region_in_round hm hd hq (any_of_quiet_tail (C := fun w' => ∃ u : Later w, w' = u.world) m hB ⟨⟨_, (Below.refl _ _).drew⟩, rfl⟩ (wpQuiet_mono (fun a' hh w' hw' => by obtain ⟨u, rfl⟩ := hw'; exact hh _ u.below) _ _ h))
theorem not_out_two {l : Nat} {rec : Loop} {R : Ending → World → Prop} : ¬ LetsOut (twoPost P l rec R) := fun ⟨_, _, h⟩ => h
theorem not_out_then {K : Act → World → Prop} {Q : Exit → Act → World → Prop} (h : ¬ LetsOut Q) : ¬ LetsOut (Exit.then K Q) := fun ⟨a, w, h'⟩ => h ⟨a, w, h'⟩
theorem not_out_block {k : Nat} {Q : Exit → Act → World → Prop} (h : ¬ LetsOut Q) : ¬ LetsOut (Exit.inBlock k Q) := fun ⟨a, w, h'⟩ => h ⟨a, w, h'⟩
end
end Go.Proofs.YtdjinmieogpgcaaGreat
/- What a range over a function keeps, in general. -/
namespace Go.Proofs.YtdjinmieogpgcaaGreat
open Go.RowKit Go.Shelf
set_option linter.unusedVariables false
def nats (l : List Nat) : List Int := l.map (fun (x : Nat) => (x : Int))
theorem SameCells.refl (w : World) : SameCells w w := fun _ _ _ _ h => h
theorem SameCells.below {a b c : World} (h : SameCells a b) (h' : Below b.heap.size b c) : SameCells a c := fun k x t z hk => (h'.block k (Array.getElem?_eq_some_iff.1 (h k x t z hk)).1).trans (h k x t z hk)
theorem blk_of_cell {w : World} {b o : Nat} {v : Value} (h : w.cell? ⟨b, o, none⟩ = some v) : ∃ c t z, w.heap[b]? = some (.cells c t z) := by
 unfold World.cell? at h
 cases ho : w.heap[b]? with
 | none => simp [ho] at h
 | some ob => cases ob <;> simp_all
theorem SameCells.cell {w w' : World} (h : SameCells w w') {b o : Nat} {v : Value} (hc : w.cell? ⟨b, o, none⟩ = some v) : w'.cell? ⟨b, o, none⟩ = some v := by
 obtain ⟨c, t, z, hb⟩ := blk_of_cell hc
 have hb' := h _ _ _ _ hb
 unfold World.cell? at hc ⊢
 rw [hb'] ; rw [hb] at hc; exact hc
theorem SlR.same {w w' : World} {a : Option Addr} {n sz : Nat} {xs : List Value} (h : SlR w a n sz xs) (hs : SameCells w w') (hsz : w.heap.size ≤ w'.heap.size) : SlR w' a n sz xs := by
 refine ⟨h.1, h.2.1, fun hn => ?_⟩
 obtain ⟨b, o, ha, hlt, hc⟩ := h.2.2 hn
 exact ⟨b, o, ha, Nat.lt_of_lt_of_le hlt hsz, fun i u hu => hs.cell (hc i u hu)⟩
theorem ER.same {α : Type} {enc : α → List Value} {k : Nat} {w w' : World} {a : Option Addr} {n : Nat} {l : List α} (h : ER enc k w a n l) (hs : SameCells w w') (hsz : w.heap.size ≤ w'.heap.size) : ER enc k w' a n l := ⟨h.1, h.2.same hs hsz⟩
def RInv (lr D : Nat) (rec : Loop) (w wa W : World) : Prop := W.heap[lr]? = some (.loop rec) ∧ W.heap[D]? = some (.deferred (some [])) ∧ SameCells wa W ∧ wa.heap.size ≤ W.heap.size ∧ Below w.heap.size w W
theorem SameCells.put {w w' : World} {l : Nat} {r r' : Loop} (h : SameCells w w') (hl : w'.heap[l]? = some (.loop r)) : SameCells w (w'.putObj l (.loop r')) := fun k c t z hk => by
 have h1 := h k c t z hk
 rw [World.putObj_heap_other (by rintro rfl; rw [hl] at h1; cases h1)]
 exact h1
theorem RInv.ready {lr D : Nat} {rec RB : Loop} {w wa A1 W : World} (h1 : SameCells wa W) (h2 : wa.heap.size ≤ W.heap.size) (h3 : Below w.heap.size w W) (h4 : W.heap[lr]? = some (.loop RB)) (h5 : W.heap[D]? = some (.deferred (some []))) (hw : w.heap.size ≤ lr) : RInv lr D rec w wa (W.putObj lr (.loop rec)) :=
 ⟨World.putObj_heap_same (Array.getElem?_eq_some_iff.1 h4).1, (World.putObj_heap_other (by rintro rfl; rw [h5] at h4; cases h4)).trans h5, h1.put h4, by rw [World.putObj_size]; exact h2, h3.trans (belowK_b (w := w) (Nat.le_refl _) W lr _ _ hw h4 rfl rfl)⟩
def MK (w : World) (Ds : List Nat) (W : World) : Prop := Ds.Nodup ∧ ∀ D ∈ Ds, w.heap.size ≤ D ∧ W.heap[D]? = some (.deferred (some []))
theorem MK.below {w A B : World} {Ds : List Nat} (h : MK w Ds A) (hb : Below A.heap.size A B) : MK w Ds B := ⟨h.1, fun D hD => ⟨(h.2 D hD).1, (hb.block _ (Array.getElem?_eq_some_iff.1 (h.2 D hD).2).1).trans (h.2 D hD).2⟩⟩
theorem MK.put {w A : World} {Ds : List Nat} {l : Nat} {r r' : Loop} (h : MK w Ds A) (hl : A.heap[l]? = some (.loop r)) : MK w Ds (A.putObj l (.loop r')) := ⟨h.1, fun D hD => ⟨(h.2 D hD).1, (World.putObj_heap_other (by rintro rfl; rw [(h.2 D hD).2] at hl; cases hl)).trans (h.2 D hD).2⟩⟩
theorem MK.cons {w A : World} {Ds : List Nat} {D : Nat} (h : MK w Ds A) (hD : A.heap[D]? = some (.deferred (some []))) (hw : w.heap.size ≤ D) (hn : D ∉ Ds) : MK w (D :: Ds) A := ⟨List.nodup_cons.2 ⟨hn, h.1⟩, fun E hE => by
 rcases List.mem_cons.1 hE with rfl | hE
 ·exact ⟨hw, hD⟩
 ·exact h.2 E hE⟩
theorem own_put {w : World} {base n sz l : Nat} {e : TypeId} {v : Value} {xs : List Value} {r r' : Loop} (h : w.ownsRow base e sz v n xs) (hl : w.heap[l]? = some (.loop r)) : (w.putObj l (.loop r')).ownsRow base e sz v n xs := by
 refine ⟨h.1, ?_⟩
 rcases h.2 with hn | ⟨g, cap, cur, rfl, hbase, hgg, rest⟩
 ·exact .inl hn
 ·refine .inr ⟨g, cap, cur, rfl, hbase, ?_, rest⟩
  rw [World.putObj_heap_other (by rintro rfl; rw [hl] at hgg; cases hgg)]
  exact hgg
theorem own_same {w w' : World} {base n sz : Nat} {e : TypeId} {v : Value} {xs : List Value} (h : w.ownsRow base e sz v n xs) (hs : SameCells w w') : w'.ownsRow base e sz v n xs := by
 refine ⟨h.1, ?_⟩
 rcases h.2 with hn | ⟨g, cap, cur, rfl, hbase, hgg, rest⟩
 ·exact .inl hn
 ·exact .inr ⟨g, cap, cur, rfl, hbase, hs _ _ _ _ hgg, rest⟩
theorem wpListIn_int {F : Fence} {N : Nat} {ops : Array Oper} {rest : List Oper} {o : Oper} {a : Act} {Q : Exit → Act → World → Prop} (w : World) (hgd : o.guard = none) (s x : Operand)
    (ho : o.op = .call { callee := .builtin .append, args := #[s, x], argTypes := #[48, 48] }) (base n B : Nat) (v : Value) (xs : List Value) (u : Int) (hs : a.eval s = v)
    (hown : w.ownsRow base 3 1 v n xs) (hx : a.eval x = .slice (some ⟨B, 0, none⟩) 1 1) (hc : w.cell? ⟨B, 0, none⟩ = some (.int .i64 u)) (hn : n ≤ 1000000) (hbase : base ≤ w.heap.size)
    (h : ∀ v' w', w'.ownsRow base 3 1 v' (n + 1) (xs ++ [.int .i64 u]) → w.grownBy w' v.ownBlock → Below base w w' → wpListIn F N Tryz.prog ops Q rest (a.put o.dst v') w') : wpListIn F N Tryz.prog ops Q (o :: rest) a w := by
 obtain ⟨i, hi1, hi2, hi3, hi4⟩ := info_parts infoInt
 have hmul : (n + 1) * 8 ≤ 1000001 * 8 := Nat.mul_le_mul (by omega) (by omega)
 refine wpListIn_append_own w hgd s x 48 ho base 3 i _ 1 8 Tryz.underlying48 hi1 hi2 hi3 hi4 rfl (by omega) v n xs hs hown ⟨B, 0, none⟩ 1 1 [.int .i64 u] hx (by simp) (fun j u' hu => by
     match j with
     | 0 =>
      simp only [List.getElem?_cons_zero, Option.some.injEq] at hu
      subst hu
      rw [Addr.add_lit, Nat.zero_add]; exact hc
     | j + 1 => simp at hu) (by simp [Value.oneCell']) (by unfold maxLen; omega) (by omega) hbase
  (fun v' w' h2 h3 _ => h v' w' h2 h3 ((Below.refl base w).grown h3 hbase (fun k hk => (hown.lt k hk).1)))
/- A map of the call's own, as a function from keys to elements. -/
def heldR (v : Value) : Option (DataW Value × List MemPlace) := some (.held v, [])
section
variable {P : Program} {α : Type} {K t e : TypeId} {kv : α → Value} {kl : α → Lit} {ok : α → Prop}
structure KeyG (P : Program) (K : TypeId) (kv : α → Value) (kl : α → Lit) (ok : α → Prop) : Prop where
 kd : Go.Maps.Keyed P K
 of : ∀ a, ok a → keyOf P K (kv a) = some (kl a)
 lit : ∀ a, ok a → WideAt.IsKeyLit (kl a)
 inj : ∀ a b, ok a → ok b → kl a = kl b → a = b
def MapG (P : Program) (K : TypeId) (kl : α → Lit) (ok : α → Prop) (w : World) (b n : Nat) (f : α → Option Value) : Prop :=
 ∃ D, w.ownsMap P K heldR b n D ∧ ∀ a, ok a → Maps.has D (kl a) = (f a).isSome ∧ ∀ v, f a = some v → ∀ z, D.atKey (kl a) z = .held v
variable {w : World} {b n : Nat} {f : α → Option Value}
theorem MapG.made (w : World) : MapG P K kl ok (w.alloc (.map #[] 0)) w.heap.size 0 (fun _ => none) :=
 ⟨.map [], World.ownsMap_made w P K heldR, fun a _ => ⟨rfl, fun v h => by cases h⟩⟩
theorem MapG.other {w' : World} (h : MapG P K kl ok w b n f) (ho : ∀ o, w.heap[b]? = some o → (∀ c t z, o ≠ .cells c t z) → (∀ r, o ≠ .loop r) → w'.heap[b]? = some o) : MapG P K kl ok w' b n f := by
 obtain ⟨D, ⟨es, clock, hb, h2⟩, h3⟩ := h
 exact ⟨D, ⟨es, clock, ho _ hb (fun _ _ _ h => by cases h) (fun _ h => by cases h), h2⟩, h3⟩
theorem MapG.below {w' : World} (h : MapG P K kl ok w b n f) (hb : Below w.heap.size w w') : MapG P K kl ok w' b n f :=
 h.other fun o ho _ _ => (hb.block b (Array.getElem?_eq_some_iff.1 ho).1).trans ho
theorem MapG.set {X i : Nat} {c : Array Value} {t' : TypeId} {v : Value} (h : MapG P K kl ok w b n f) (hx : w.heap[X]? = some (.cells c t')) : MapG P K kl ok (w.setCell ⟨X, i, none⟩ v) b n f :=
 h.other fun o ho h1 _ => by
  rw [show (w.setCell ⟨X, i, none⟩ v).heap[b]? = w.heap[b]? from by
   have hne : X ≠ b := by rintro rfl; rw [hx] at ho; simp only [Option.some.injEq] at ho; exact h1 _ _ _ ho.symm
   simp [World.setCell, Array.getElem?_modify, hne]]
  exact ho
theorem MapG.look_ok (hk : KeyG P K kv kl ok) (ht : P.underlying t = some (.map K e)) {z : Value} (hz : (zeroValue e).run P w = .ok z w) (h : MapG P K kl ok w b n f) {a : α} (ha : ok a) :
    (Instr.lookup t (.map (some b)) (kv a) true).run P w = .ok (.tuple #[(f a).getD z, .bool (f a).isSome]) w := by
 obtain ⟨D, h1, h2⟩ := h
 obtain ⟨h3, h4⟩ := h2 a ha
 obtain ⟨v, ps, hr, hv⟩ := h1.look_ok hk.kd ht hz (show heldR z = some (.held z, []) from rfl) (hk.of a ha)
 rw [hr, h3]
 have hv : DataW.held v = D.atKey (kl a) (.held z) := by
  unfold heldR at hv
  simp only [Option.some.injEq, Prod.mk.injEq] at hv
  exact hv.1
 cases hf : f a with
 | some v0 =>
  rw [h4 v0 hf] at hv
  injection hv with hv
  subst hv
  rfl
 | none =>
  rw [hf] at h3
  rw [Maps.atKey_of_not_has h3] at hv
  injection hv with hv
  subst hv
  rfl
theorem MapG.look (hk : KeyG P K kv kl ok) (ht : P.underlying t = some (.map K e)) {z : Value} (hz : (zeroValue e).run P w = .ok z w) (h : MapG P K kl ok w b n f) {a : α} (ha : ok a) {v0 : Value} (hf : f a = some v0) :
    (Instr.lookup t (.map (some b)) (kv a) false).run P w = .ok v0 w := by
 obtain ⟨D, h1, h2⟩ := h
 obtain ⟨h3, h4⟩ := h2 a ha
 obtain ⟨v, ps, hr, hv⟩ := h1.lookup hk.kd ht hz (show heldR z = some (.held z, []) from rfl) (hk.of a ha)
 rw [hr]
 unfold heldR at hv
 simp only [Option.some.injEq, Prod.mk.injEq] at hv
 have hv := hv.1
 rw [h4 v0 hf] at hv
 injection hv with hv
 subst hv
 rfl
theorem MapG.store [DecidableEq α] (hk : KeyG P K kv kl ok) (ht : P.underlying t = some (.map K e)) (hn : n < maxLen) (h : MapG P K kl ok w b n f) {a : α} (ha : ok a) (v : Value) :
    ∃ w', (Instr.mapUpdate t (.map (some b)) (kv a) v).run P w = .ok () w' ∧ MapG P K kl ok w' b (n + 1) (fun x => if x = a then some v else f x) ∧ w.grownBy w' (some b) ∧ (∀ o, w'.heap[b]? = some o → ∀ c t z, o ≠ .cells c t z) := by
 obtain ⟨D, h1, h2⟩ := h
 obtain ⟨w', hr, h3, h4⟩ := h1.store hk.kd ht hn (hk.of a ha) (show heldR v = some (.held v, []) from rfl)
 refine ⟨w', hr, ⟨_, h3, fun x hx => ?_⟩, h4.grown, ?_⟩
 ·by_cases hxa : x = a
  ·subst hxa
   show Maps.has _ _ = (if x = x then some v else f x).isSome ∧ ∀ u, (if x = x then some v else f x) = some u → ∀ z, _
   rw [if_pos rfl]
   refine ⟨Maps.has_put_same h1.isMap (hk.lit x hx) _, fun u hu z => ?_⟩
   rw [Maps.atKey_put_same h1.isMap (hk.lit x hx)]
   injection hu with hu
   rw [hu]
  ·show Maps.has _ _ = (if x = a then some v else f x).isSome ∧ ∀ u, (if x = a then some v else f x) = some u → ∀ z, _
   rw [if_neg hxa]
   have hne : kl x ≠ kl a := fun e => hxa (hk.inj x a hx ha e)
   refine ⟨by rw [Maps.has_put_other hne]; exact (h2 x hx).1, fun u hu z => ?_⟩
   rw [Maps.atKey_put_other hne]
   exact (h2 x hx).2 u hu z
 ·obtain ⟨es, clock, hb, _⟩ := h3
  intro o ho c t' z hh
  rw [hb] at ho
  subst hh
  cases ho
end
end Go.Proofs.YtdjinmieogpgcaaGreat
/- Moments and pairs as keys of maps. -/
namespace Go.Proofs.YtdjinmieogpgcaaGreat
open Go.RowKit
set_option linter.unusedVariables false
set_option linter.unusedSimpArgs false
theorem laidAll : laidOutB Tryz.prog = true := by kernel_rfl
theorem rowMom : 27 < Tryz.prog.types.size := of_decide_eq_true (by kernel_rfl)
theorem rowPai : 29 < Tryz.prog.types.size := of_decide_eq_true (by kernel_rfl)
theorem lawMom : WideMaps.KeyLaw Tryz.prog 27 := deep_law_laid laidAll (m := 3) (by omega) rowMom (by kernel_rfl) (by kernel_rfl)
theorem lawPai : WideMaps.KeyLaw Tryz.prog 29 := deep_law_laid laidAll (m := 4) (by omega) rowPai (by kernel_rfl) (by kernel_rfl)
theorem someSize : ∃ d, Tryz.prog.types.size = d + 5 := ⟨Tryz.prog.types.size - 5, by kernel_rfl⟩
theorem cellsInt : Tryz.prog.cellsOf 3 = 1 := by kernel_rfl
theorem cellsMom : Tryz.prog.cellsOf 27 = 2 := by kernel_rfl
theorem cellsReg : Tryz.prog.cellsOf 25 = 6 := by kernel_rfl
theorem cellsRng : Tryz.prog.cellsOf 23 = 2 := by kernel_rfl
theorem cellsPai : Tryz.prog.cellsOf 29 = 16 := by kernel_rfl
theorem litsInt {d : Nat} {a : Int} (h : (Lit.int .i64 a).wf = true) : Tryz.prog.keyLits (d + 1) 3 [.int .i64 a] = some [.int .i64 a] := by
 simp [Program.keyLits, Tryz.underlying3, h]
theorem litsMom {d : Nat} {a b : Int} (h1 : (Lit.int .i64 a).wf = true) (h2 : (Lit.int .i64 b).wf = true) : Tryz.prog.keyLits (d + 2) 27 [.int .i64 a, .int .i64 b] = some [.int .i64 a, .int .i64 b] := by
 simp [Program.keyLits, Tryz.underlying27, Tryz.underlying3, cellsMom, cellsInt, h1, h2]
theorem litsRng {d : Nat} {a b : Int} (h1 : (Lit.int .i64 a).wf = true) (h2 : (Lit.int .i64 b).wf = true) : Tryz.prog.keyLits (d + 2) 23 [.int .i64 a, .int .i64 b] = some [.int .i64 a, .int .i64 b] := by
 simp [Program.keyLits, Tryz.underlying23, Tryz.underlying3, cellsRng, cellsInt, h1, h2]
theorem litsReg {d : Nat} {a b c e f g : Int} (h1 : (Lit.int .i64 a).wf = true) (h2 : (Lit.int .i64 b).wf = true) (h3 : (Lit.int .i64 c).wf = true) (h4 : (Lit.int .i64 e).wf = true) (h5 : (Lit.int .i64 f).wf = true) (h6 : (Lit.int .i64 g).wf = true) :
    Tryz.prog.keyLits (d + 3) 25 [.int .i64 a, .int .i64 b, .int .i64 c, .int .i64 e, .int .i64 f, .int .i64 g] = some [.int .i64 a, .int .i64 b, .int .i64 c, .int .i64 e, .int .i64 f, .int .i64 g] := by
 unfold Program.keyLits
 simp [Tryz.underlying25, cellsReg, cellsInt, cellsRng, litsInt h1, litsInt h2, litsInt h3, litsInt h4, litsRng h5 h6]
def momL (m : Mom) : Lit := .string (keyBytes [.int .i64 m.tap, .int .i64 m.wait])
def okM (m : Mom) : Prop := (-1000 ≤ m.tap ∧ m.tap ≤ 1000) ∧ -1000 ≤ m.wait ∧ m.wait ≤ 1000
theorem momKey (m : Mom) (h : okM m) : keyOf Tryz.prog 27 (momV m) = some (momL m) := by
 obtain ⟨⟨h1, h2⟩, h3, h4⟩ := h
 obtain ⟨d, hd⟩ := someSize
 unfold keyOf momV momL
 rw [Tryz.underlying27]
 have h5 : Tryz.prog.keyType 27 = true := by kernel_rfl
 have h6 : (Value.agg #[.int .i64 m.tap, .int .i64 m.wait]).formed Tryz.prog 27 = true := by simp [Value.formed, Tryz.underlying27, cellsMom]
 rw [h5, h6, hd]
 have h7 := litsMom (d := d + 4) (a := m.tap) (b := m.wait) (WalkArith.wf_i64 (by omega)) (WalkArith.wf_i64 (by omega))
 simp [Value.cells, h7]
theorem momKeys : KeyG Tryz.prog 27 momV momL okM := ⟨Go.Maps.Keyed.of_law lawMom, momKey, fun a ha => by
 obtain ⟨s, hs⟩ := lawMom.str (momKey a ha)
 rw [hs]; trivial, fun a b ha hb h => by
 have h1 := momKey a ha
 rw [h] at h1
 have := lawMom.inj h1 (momKey b hb)
 unfold momV at this
 obtain ⟨a1, a2⟩ := a
 obtain ⟨b1, b2⟩ := b
 simp at this
 obtain ⟨rfl, rfl⟩ := this
 rfl⟩
def paiV (p : Pai) : Value := .agg (paiC p).toArray
def paiI (p : Pai) : List Int := [p.a.tgt, p.a.band, p.a.dly, p.a.stp, p.a.lo, p.a.hi, p.b.tgt, p.b.band, p.b.dly, p.b.stp, p.b.lo, p.b.hi, p.ma.tap, p.ma.wait, p.mb.tap, p.mb.wait]
def paiL (p : Pai) : Lit := .string (keyBytes ((paiI p).map (Lit.int .i64)))
def okI (x : Int) : Prop := -100000 ≤ x ∧ x ≤ 100000
def okP (p : Pai) : Prop := (okI p.a.tgt ∧ okI p.a.band ∧ okI p.a.dly ∧ okI p.a.stp ∧ okI p.a.lo ∧ okI p.a.hi) ∧ (okI p.b.tgt ∧ okI p.b.band ∧ okI p.b.dly ∧ okI p.b.stp ∧ okI p.b.lo ∧ okI p.b.hi) ∧ (okI p.ma.tap ∧ okI p.ma.wait) ∧ okI p.mb.tap ∧ okI p.mb.wait
theorem okI_wf {x : Int} (h : okI x) : (Lit.int .i64 x).wf = true := WalkArith.wf_i64 (by unfold okI at h; omega)
theorem paiKey (p : Pai) (h : okP p) : keyOf Tryz.prog 29 (paiV p) = some (paiL p) := by
 obtain ⟨⟨a1, a2, a3, a4, a5, a6⟩, ⟨b1, b2, b3, b4, b5, b6⟩, ⟨c1, c2⟩, d1, d2⟩ := h
 obtain ⟨d, hd⟩ := someSize
 unfold keyOf
 rw [Tryz.underlying29]
 have h5 : Tryz.prog.keyType 29 = true := by kernel_rfl
 have h6 : (paiV p).formed Tryz.prog 29 = true := by simp [paiV, paiC, Value.formed, Tryz.underlying29, cellsPai]
 rw [h5, h6, hd]
 have h7 := litsReg (d := d + 2) (okI_wf a1) (okI_wf a2) (okI_wf a3) (okI_wf a4) (okI_wf a5) (okI_wf a6)
 have h8 := litsReg (d := d + 2) (okI_wf b1) (okI_wf b2) (okI_wf b3) (okI_wf b4) (okI_wf b5) (okI_wf b6)
 have h9 := litsMom (d := d + 3) (okI_wf c1) (okI_wf c2)
 have h10 := litsMom (d := d + 3) (okI_wf d1) (okI_wf d2)
 have h11 : Tryz.prog.keyLits (d + 5 + 1) 29 (paiV p).cells.toList = some ((paiI p).map (Lit.int .i64)) := by
  unfold Program.keyLits
  simp [Tryz.underlying29, paiV, paiC, paiI, Value.cells, cellsPai, cellsReg, cellsMom, h7, h8, h9, h10]
 simp only [Bool.and_self, if_true, h11]
 rfl
theorem paiKeys : KeyG Tryz.prog 29 paiV paiL okP := ⟨Go.Maps.Keyed.of_law lawPai, paiKey, fun a ha => by
 obtain ⟨s, hs⟩ := lawPai.str (paiKey a ha)
 rw [hs]; trivial, fun a b ha hb h => by
 have h1 := paiKey a ha
 rw [h] at h1
 have := lawPai.inj h1 (paiKey b hb)
 unfold paiV paiC at this
 obtain ⟨⟨_, _, _, _, _, _⟩, ⟨_, _, _, _, _, _⟩, ⟨_, _⟩, ⟨_, _⟩⟩ := a
 obtain ⟨⟨_, _, _, _, _, _⟩, ⟨_, _, _, _, _, _⟩, ⟨_, _⟩, ⟨_, _⟩⟩ := b
 simp at this
 obtain ⟨rfl, rfl, rfl, rfl, rfl, rfl, rfl, rfl, rfl, rfl, rfl, rfl, rfl, rfl, rfl, rfl⟩ := this
 rfl⟩
end Go.Proofs.YtdjinmieogpgcaaGreat
