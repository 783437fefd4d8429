import Derived.OrdersHeld
import Derived.Test.YtidboecjllaofaaGreatMA
/- A region that draws its order, whose first n operations are quiet in a class of worlds (a callee may make memory) and whose last ones are a forced chain: one walk of the text's order serves. My own joining of two theorems of the library (a quiet region; a still region with a tail). -/
namespace Go.Proofs.YtidboecjllaofaaGreat
open Go.RowKit
section
variable {P : Program} {ops : Array Oper} {md : Region.Mode} {C : World → Prop}

/-- The first operations in whatever order; behind them L. -/
def headQ (P : Program) (md : Region.Mode) (ops : Array Oper) (C : World → Prop) (n : Nat) (L : Array Bool → Act → Prop) : Nat → Array Bool → Act → Prop
  | 0, listed, a => L listed a
  | f + 1, listed, a => Region.ready md ops listed ≠ [] ∧ ∀ i ∈ Region.ready md ops listed, i < n ∧ qOp P ops C i (headQ P md ops C n L f (listed.setIfInBounds i true)) a

theorem any_of_headQ {n g : Nat} {L : Array Bool → Act → Prop} {Q' : Exit → Act → World → Prop} (hL : ∀ listed a w, C w → L listed a → wpAny P md ops Q' g listed a w) :
    ∀ (f : Nat) (listed : Array Bool) (a : Act) (w : World), C w → headQ P md ops C n L f listed a → wpAny P md ops Q' (f + g) listed a w
  | 0, listed, a, w, hw, h => by rw [Nat.zero_add]; exact hL _ _ _ hw h
  | f + 1, listed, a, w, hw, h => by
    rw [show f + 1 + g = (f + g) + 1 by omega]
    exact ⟨fun h0 => absurd h0 h.1, fun i hi => wpOp_of_qOp hw (fun a' w' hw' h' => any_of_headQ hL f _ a' w' hw' h') (h.2 i hi).2⟩

theorem headQ_first {n i : Nat} {oi : Oper} {v : Value} {L : Array Bool → Act → Prop} (hi : ops[i]? = some oi) (hsel : ∀ (j : Nat) (o : Oper) cs b, ops[j]? = some o → o.op ≠ .select cs b)
    (hs : Region.sinkB md ops n = true) (hc : Region.chainB md ops n = true) (hn : n < ops.size) (hin : i < n)
    (hdone : ∀ listed a, L listed a → ∀ j ∈ Region.ready md ops listed, n ≤ j) :
    ∀ (f : Nat) (listed : Array Bool) (a : Act), HeadInv md ops n listed →
      (∀ j oj, ops[j]? = some oj → j ≠ i → listed.getD j true = false → (∀ e ∈ oj.after, Region.binds md e = true → e.on ≠ i) → oi.apart ops oj = true) →
      i ∈ Region.ready md ops listed → YieldsIn P ops C oi v a →
      headQ P md ops C n L f (listed.setIfInBounds i true) (a.put oi.dst v) → headQ P md ops C n L (f + 1) listed a := by
  intro f
  induction f with
  | zero =>
    intro listed a inv _ hr hy H
    have hun := (mem_ready.1 hr).1
    refine ⟨fun h => (by rw [h] at hr; cases hr), fun j hj => ?_⟩
    have hjn : j < n := by
      rcases Nat.lt_or_ge j n with h | h
      · exact h
      · exact absurd hj (tail_waits hs hc hn inv _ i rfl hin hun j h)
    refine ⟨hjn, ?_⟩
    by_cases hji : j = i
    · subst hji; exact hy.qOp hi H
    · have := hdone _ _ H j (ready_mono hj hji)
      omega
  | succ f ih =>
    intro listed a inv hfree hr hy H
    have hun := (mem_ready.1 hr).1
    refine ⟨fun h => (by rw [h] at hr; cases hr), fun j hj => ?_⟩
    have hjn : j < n := by
      rcases Nat.lt_or_ge j n with h | h
      · exact h
      · exact absurd hj (tail_waits hs hc hn inv _ i rfl hin hun j h)
    refine ⟨hjn, ?_⟩
    by_cases hji : j = i
    · subst hji; exact hy.qOp hi H
    · have h1 := (H.2 j (ready_mono hj hji)).2
      obtain ⟨hjun, oj, hoj, hall⟩ := mem_ready.1 hj
      have hnot : ∀ e ∈ oj.after, Region.binds md e = true → e.on ≠ i := fun e he hb heq => by
        have h1 := hall e he hb
        rw [heq, getD_both hun] at h1
        cases h1
      have h2 := qOp_put hoj (hfree j oj hoj hji hjun hnot) (fun cs b => hsel i oi cs b hi) (fun cs b => hsel j oj cs b hoj) hy h1
      have hfree' : ∀ k ok, ops[k]? = some ok → k ≠ i → (listed.setIfInBounds j true).getD k true = false →
          (∀ e ∈ ok.after, Region.binds md e = true → e.on ≠ i) → oi.apart ops ok = true := fun k ok hk hki hun' hno => by
        refine hfree k ok hk hki ?_ hno
        by_cases hjk : j = k
        · subst hjk; exact hjun
        · rw [getD_set_ne true hjk] at hun'; exact hun'
      refine qOp_mono (fun a' h3 => ih (listed.setIfInBounds j true) a' (inv.set hj hjn) hfree' (ready_mono hr (Ne.symm hji)) h3.1 ?_) h2
      rw [Array.setIfInBounds_comm _ _ hji]
      exact h3.2

theorem headQ_lex {n g : Nat} {Lq : Act → Prop} (hsel : Region.noSelect ops = true) (hs : Region.sinkB md ops n = true) (hc : Region.chainB md ops n = true) (hn : n < ops.size) :
    ∀ (l : List Oper) (k : Nat) (listed : Array Bool) (a : Act), (∀ j, j < l.length → l[j]? = ops[k + j]?) → k + l.length = n → HeadInv md ops n listed →
    Region.lexHead md ops g l.length k listed = true → wpQuiet P ops C Lq l a →
    headQ P md ops C n (fun listed' a' => Region.seqB md ops g n listed' = true ∧ Lq a') l.length listed a
  | [], k, listed, a, _, hk, _, hB, h => by
    have : k = n := by simpa using hk
    subst this
    exact ⟨by simpa [Region.lexHead] using hB, h⟩
  | o :: l, k, listed, a, hl, hk, inv, hB, h => by
    have h0 : ops[k]? = some o := by simpa using (hl 0 (by simp)).symm
    simp only [List.length_cons, Region.lexHead, Bool.and_eq_true] at hB
    obtain ⟨⟨hr, hf⟩, hB'⟩ := hB
    have hkn : k < n := by simp only [List.length_cons] at hk; omega
    have hr' : k ∈ Region.ready md ops listed := by simpa using hr
    have hst : qOp P ops C k (wpQuiet P ops C Lq l) a := by unfold qOp; simp only [h0]; exact h
    obtain ⟨v, hy, hK⟩ := yieldsIn_of_qOp h0 hst
    exact headQ_first h0 (Region.noSelect_spec hsel) hs hc hn hkn (fun listed' a' hL => seqB_ready hL.1) l.length listed a inv (Region.free_spec h0 hf) hr' hy
      (headQ_lex hsel hs hc hn l (k + 1) _ _ (fun j hj => by have := hl (j + 1) (by simp; omega); simpa [Nat.add_assoc, Nat.add_comm 1 j] using this) (by simp only [List.length_cons] at hk; omega) (inv.set hr' hkn) hB' hK)

/-- The theorem: the head quiet in C, the tail by the plain walk, in whatever world of C. -/
theorem wp_region_quiet_tail {id : Nat} {Q : Exit → Act → World → Prop} {a : Act} {w : World} {l : List Oper} (n : Nat) (C : World → Prop) (hm : P.follows .mixedOrders = true) (hB : Region.lexTailB .any l.toArray n = true) (hC : C w.drew)
    (h : wpQuiet P l.toArray C (fun a' => ∀ w', C w' → wpList P l.toArray Q (l.drop n) a' w') (l.take n) a) : (Code.region id l.toArray true).wp P Q a w := by
  simp only [Region.lexTailB, Bool.and_eq_true, decide_eq_true_eq] at hB
  obtain ⟨⟨⟨⟨hsel, hn⟩, hs⟩, hc⟩, hlex⟩ := hB
  have hn' : n < l.length := by simpa using hn
  have htl : (l.take n).length = n := by simp; omega
  have hdl : (l.drop n).length = l.toArray.size - n := by simp
  have inv0 : HeadInv .any l.toArray n (Array.replicate l.toArray.size false) :=
    ⟨by simp, fun j oj _ hl => (by rw [getD_replicate_false] at hl; cases hl), fun t _ ht => getD_in (by simpa using ht) (getD_replicate_false _ _)⟩
  have H := headQ_lex (md := .any) (C := C) (g := l.toArray.size - n) hsel hs hc hn (l.take n) 0 _ a (fun j hj => by
    have hj' : j < n := by rw [htl] at hj; exact hj
    simp [hj']) (by simpa using htl) inv0 (by rw [htl]; exact hlex) h
  refine wp_region_any hm ?_
  have := any_of_headQ (Q' := Q) (g := l.toArray.size - n) (fun listed a' w' hw' hL => by
    have := wpAny_of_seq (md := .any) (Q' := Q) (l.drop n) n listed a' w' (fun j => by simp [List.getElem?_drop]) (by rw [hdl]; exact hL.1) (hL.2 w' hw')
    rwa [hdl] at this) _ _ _ _ hC H
  rw [htl, show n + (l.toArray.size - n) = l.toArray.size by omega] at this
  exact this
end

/-- A world in which all of w0's blocks stand as they were. -/
structure Later (w0 : World) where
  world : World
  below : Below w0.heap.size w0 world

instance later_nonempty (w0 : World) : Nonempty (Later w0) := ⟨⟨w0, Below.refl _ _⟩⟩
theorem Later.cell {w0 : World} (u : Later w0) (a : Addr) (h : (w0.cell? a).isSome = true) : u.world.cell? a = w0.cell? a := by
  obtain ⟨v, hv⟩ := Option.isSome_iff_exists.1 h
  exact u.below.cell (World.block_lt_of_cell? w0 a hv)
theorem Later.frozen {w0 : World} (u : Later w0) (a : Addr) (h : (w0.cell? a).isSome = true) : u.world.frozen? a = w0.frozen? a := by
  obtain ⟨v, hv⟩ := Option.isSome_iff_exists.1 h
  exact u.below.frozen (World.block_lt_of_cell? w0 a hv)
attribute [go_sem] Later.cell Later.frozen

theorem calls_later {P : Program} {f : FuncId} {args : Array Value} {w0 : World} {u : Later w0} {v : Value}
    (h : Calls P f args u.world fun e w' => e = .returned v ∧ Below u.world.heap.size u.world w') : Calls P f args u.world fun e w'' => e = .returned v ∧ ∃ u' : Later w0, w'' = u'.world :=
  h.mono fun _ w' ⟨he, hb⟩ => ⟨he, ⟨w', u.below.trans (hb.mono u.below.size)⟩, rfl⟩
theorem calls_later_same {P : Program} {f : FuncId} {args : Array Value} {w0 : World} {u : Later w0} {v : Value}
    (h : Calls P f args u.world fun e w' => e = .returned v ∧ u.world = w') : Calls P f args u.world fun e w'' => e = .returned v ∧ ∃ u' : Later w0, w'' = u'.world :=
  h.mono fun _ _ ⟨he, hb⟩ => ⟨he, u, hb.symm⟩
theorem calls_later_drew {P : Program} {f : FuncId} {args : Array Value} {w0 : World} {u : Later w0} {v : Value}
    (h : Calls P f args u.world fun e w' => e = .returned v ∧ ∃ n, w' = u.world.drewN n) : Calls P f args u.world fun e w'' => e = .returned v ∧ ∃ u' : Later w0, w'' = u'.world :=
  h.mono fun _ _ ⟨he, n, hb⟩ => ⟨he, ⟨u.world.drewN n, u.below.drewN n⟩, hb⟩
theorem wpQuiet_mono {P : Program} {ops : Array Oper} {C : World → Prop} {Q Q' : Act → Prop} (h : ∀ a, Q a → Q' a) : ∀ (l : List Oper) (a : Act), wpQuiet P ops C Q l a → wpQuiet P ops C Q' l a
  | [], a, hh => h a hh
  | o :: l, a, hh => by
    unfold wpQuiet at hh ⊢
    split
    · rename_i hw; rw [if_pos hw] at hh; exact Oper.quiet_mono (fun a' => wpQuiet_mono h l a') hh
    · rename_i hw; rw [if_neg hw] at hh; exact wpQuiet_mono h l _ hh
theorem later_of_eq {P : Program} {id : Nat} {Q : Exit → Act → World → Prop} {a : Act} {w : World} {l : List Oper} (n : Nat) (hm : P.follows .mixedOrders = true) (hB : Region.lexTailB .any l.toArray n = true)
    (h : wpQuiet P l.toArray (fun w' => ∃ u : Later w, w' = u.world) (fun a' => ∀ w', Below w.heap.size w w' → wpList P l.toArray Q (l.drop n) a' w') (l.take n) a) : (Code.region id l.toArray true).wp P Q a w :=
  wp_region_quiet_tail n (fun w' => ∃ u : Later w, w' = u.world) hm hB ⟨⟨_, (Below.refl _ _).drew⟩, rfl⟩ (wpQuiet_mono (fun a' hh w' hw' => by obtain ⟨u, rfl⟩ := hw'; exact hh _ u.below) _ _ h)
theorem later_all {P : Program} {id : Nat} {Q : Exit → Act → World → Prop} {a : Act} {w : World} {l : List Oper} (hm : P.follows .mixedOrders = true) (hB : Region.lexB .any l.toArray = true)
    (h : wpQuiet P l.toArray (fun w' => ∃ u : Later w, w' = u.world) (fun a' => ∀ w', Below w.heap.size w w' → Q .normal a' w') l a) : (Code.region id l.toArray true).wp P Q a w :=
  wp_region_quiet (C := fun w' => ∃ u : Later w, w' = u.world) hm hB ⟨⟨_, (Below.refl _ _).drew⟩, rfl⟩ (wpQuiet_mono (fun a' hh w' hw' => by obtain ⟨u, rfl⟩ := hw'; exact hh _ u.below) _ _ (by simpa using h))
/-- The same where the head only reads (it may draw): behind it the world is the one at hand after some draws. -/
theorem drew_of_eq {P : Program} {id : Nat} {Q : Exit → Act → World → Prop} {a : Act} {w : World} {l : List Oper} (n : Nat) (hm : P.follows .mixedOrders = true) (hB : Region.lexTailB .any l.toArray n = true)
    (h : wpQuiet P l.toArray (fun w' => ∃ n, w' = w.drewN n) (fun a' => ∀ m, wpList P l.toArray Q (l.drop n) a' (w.drewN m)) (l.take n) a) : (Code.region id l.toArray true).wp P Q a w :=
  wp_region_quiet_tail n (fun w' => ∃ n, w' = w.drewN n) hm hB ⟨1, rfl⟩ (wpQuiet_mono (fun a' hh w' hw' => by obtain ⟨m, rfl⟩ := hw'; exact hh m) _ _ h)
theorem calls_drew_same {P : Program} {f : FuncId} {args : Array Value} {w : World} {n : Nat} {v : Value}
    (h : Calls P f args (w.drewN n) fun e w' => e = .returned v ∧ w.drewN n = w') : Calls P f args (w.drewN n) fun e w'' => e = .returned v ∧ ∃ m, w'' = w.drewN m :=
  h.mono fun _ _ ⟨he, hm⟩ => ⟨he, n, hm.symm⟩
theorem calls_drew {P : Program} {f : FuncId} {args : Array Value} {w : World} {n : Nat} {v : Value}
    (h : Calls P f args (w.drewN n) fun e w' => e = .returned v ∧ ∃ m, w' = (w.drewN n).drewN m) : Calls P f args (w.drewN n) fun e w'' => e = .returned v ∧ ∃ m, w'' = w.drewN m :=
  h.mono fun _ _ ⟨he, m, hm⟩ => ⟨he, n + m, by rw [hm, World.drewN_drewN]⟩
end Go.Proofs.YtidboecjllaofaaGreat

/- Small functions of the references and the laws. -/
namespace Go.Proofs.YtidboecjllaofaaGreat
open Go.RowKit
set_option linter.unusedVariables false

set_option maxRecDepth 100000 in
theorem copyInts_any (l : List Int) (a : Option Addr) (n c : Nat) (w : World) (h : IntsR w a n l) (hn : n ≤ 100000) :
    Calls Tryz.prog 53 #[.slice a n c] w fun e' w' => ∃ a' c', e' = .returned (.slice a' n c') ∧ Below w.heap.size w w' ∧ w'.ownsRow w.heap.size 3 1 (.slice a' n c') n (icells l) := by
  have H := Lib.hid h
  clear h
  go_enter Tryz.func53, Tryz.ntmps53
  go_wp2_with (at_builtin; refine wpList_append_sl _ rfl _ _ 62 rfl w.heap.size 3 _ 1 8 Tryz.underlying62 infoInt rfl (by omega) _ _ _ rfl (World.ownsRow_made w #[] 0 (by omega) (by simp [maxLen]) rfl) a n c (icells l) rfl (H.out.below (by (repeat' (first | (with_reducible exact Below.refl _ _) | (with_reducible assumption) | (with_reducible refine Below.drewN ?_ _) | (with_reducible refine Below.alloc ?_ ?_ _) | (with_reducible refine Below.drew ?_) | (with_reducible refine Below.setCell ?_ ?_ _) | (with_reducible refine Below.step (by assumption) ?_ ?_) | (with_reducible exact And.left (by assumption)) | go_size)))) (icells_one _) (by omega) (by omega) (by simp) ?_)
  intro v2 w2 hown2 _ hb2
  try simp only [Nat.zero_add, List.nil_append] at hown2
  obtain ⟨a', c', rfl, _, _⟩ := owns_slice hown2
  have HO := Lib.hid hown2
  have HB := Lib.hid hb2
  clear hown2 hb2
  go_wp2
  go_ret
  exact ⟨a', c', rfl, Below.trans (by (repeat' (first | (with_reducible exact Below.refl _ _) | (with_reducible assumption) | (with_reducible refine Below.drewN ?_ _) | (with_reducible refine Below.alloc ?_ ?_ _) | (with_reducible refine Below.drew ?_) | (with_reducible refine Below.setCell ?_ ?_ _) | (with_reducible refine Below.step (by assumption) ?_ ?_) | (with_reducible exact And.left (by assumption)) | go_size))) HB.out, HO.out⟩

theorem drop_any {p : Int → Bool} (l : List Int) (k : Nat) (h : k < l.length) : (l.drop k).any p = (p (l.getD k 0) || (l.drop (k + 1)).any p) := by
  rw [drop_at l k 0 h]; rfl

set_option maxRecDepth 100000 in
theorem ints_any (l1 l2 : List Int) (a1 a2 : Option Addr) (n1 c1 n2 c2 : Nat) (w : World) (h1 : IntsR w a1 n1 l1) (h2 : IntsR w a2 n2 l2) :
    Calls Tryz.prog 49 #[.slice a1 n1 c1, .slice a2 n2 c2] w fun e' w' => e' = .returned (.bool (decide (l1 = l2))) ∧ ∃ m, w' = w.drewN m := by
  have H1 := Lib.hid h1
  have H2 := Lib.hid h2
  have hn1 := h1.small
  have hn2 := h2.small
  clear h1 h2
  by_cases hne : n1 = n2
  · subst hne
    have hbb : ((n1 : Int) != (n1 : Int)) = false := by simp
    go_enter Tryz.func49, Tryz.ntmps49
    go_wp2
    go_loopw [5] (fun i wr => ∃ k : Nat, i = .int .i64 k ∧ k ≤ n1 ∧ Hid (decide (l1.drop k = l2.drop k) = decide (l1 = l2)) ∧ ∃ m, wr = w.drewN m) (fun i _ => n1 - (intOf i).toNat)
    case atStart => exact ⟨0, rfl, Nat.zero_le _, rfl, 0, rfl⟩
    case round =>
      obtain ⟨k, rfl, hk, hF, m, rfl⟩ := hrel
      by_cases hlt : k < n1
      · obtain ⟨b1, o1, rfl, hb1, hc1⟩ := H1.out.addr (by omega)
        obtain ⟨b2, o2, rfl, hb2, hc2⟩ := H2.out.addr (by omega)
        have hck1 := hc1 k hlt
        have hck2 := hc2 k hlt
        clear hc1 hc2
        have hF' := hF.out
        rw [drop_at l1 k 0 (by rw [H1.out.len]; exact hlt), drop_at l2 k 0 (by rw [H2.out.len]; exact hlt)] at hF'
        obtain ⟨x, hx⟩ : ∃ x, x = l1.getD k 0 := ⟨_, rfl⟩
        obtain ⟨y, hy⟩ : ∃ y, y = l2.getD k 0 := ⟨_, rfl⟩
        rw [← hx] at hck1 hF'
        rw [← hy] at hck2 hF'
        have HF := Lib.hid hF'
        have hk0 : (0 : Int) ≤ (k : Int) := by omega
        have hk1 : (k : Int) < (n1 : Int) := by omega
        clear hx hy hF' hF
        by_cases hxy : x = y
        · subst hxy
          have hbx : (x != x) = false := by simp
          go_wp2
          go_quiet (fail)
          go_wp2
          go_roundw
          case rel => exact ⟨k + 1, by go_num, by omega, Lib.hid (by simpa using HF.out), _, rfl⟩
          case measure => simp [intOf]; omega
        · have hbx : (x != y) = true := by simpa using hxy
          go_wp2
          go_quiet (fail)
          go_wp2
          go_ret
          exact ⟨ret_bool (by rw [← HF.out]; simp [hxy]), _, World.drewN_drewN _ _ _⟩
      · go_wp2
        go_ret
        exact ⟨ret_bool (by rw [← hF.out, drop_end l1 k (by rw [H1.out.len]; omega), drop_end l2 k (by rw [H2.out.len]; omega)]; rfl), m, rfl⟩
  · have hbb : ((n1 : Int) != (n2 : Int)) = true := by simp; omega
    go_enter Tryz.func49, Tryz.ntmps49
    go_wp2
    go_ret
    refine ⟨ret_bool ?_, 0, rfl⟩
    have : ¬ l1 = l2 := by intro h; apply hne; rw [← H1.out.len, ← H2.out.len, h]
    simp [this]

theorem floor_pos (x y : Int) (w : World) (hx0 : -9000000000000000000 ≤ x) (hx1 : x ≤ 9000000000000000000) (hy : 0 < y) (hy1 : y ≤ 9000000000000000000) :
    Calls Tryz.prog 96 #[.int .i64 x, .int .i64 y] w fun e' w' => e' = .returned (.int .i64 (x / y)) ∧ w = w' := by
  have hyn : (y == 0) = false := by simp; omega
  have hq := tdiv_bd x y 9000000000000000000 (by omega) (by omega)
  by_cases h0 : 0 ≤ x
  · have e1 : 0 ≤ x / y := Int.ediv_nonneg h0 (by omega)
    have e2 : x.tdiv y = x / y := Int.tdiv_eq_ediv_of_nonneg h0
    rw [e2] at hq
    have e3 : 0 ≤ x % y := Int.emod_nonneg _ (by omega)
    clear e2
    go_enter Tryz.func96, Tryz.ntmps96
    go_wp2
    go_ret
    exact ⟨rfl, rfl⟩
  · have h0' : x < 0 := by omega
    have hE := Lib.hid (Int.tdiv_eq_ediv (a := x) (b := y))
    have hM := Lib.hid (Int.tmod_eq_emod (a := x) (b := y))
    by_cases hd : x % y = 0
    · have ht : x.tmod y = 0 := by rw [hM.out]; simp [Int.dvd_of_emod_eq_zero hd]; exact hd
      have ht' : decide (x.tmod y < 0) = false := by simp [ht]
      have HT := Lib.hid ht
      clear ht
      go_enter Tryz.func96, Tryz.ntmps96
      go_wp2
      go_ret
      exact ⟨ret_int (by rw [hE.out]; simp [Int.dvd_of_emod_eq_zero hd]), rfl⟩
    · have hnd : ¬ (0 ≤ x ∨ y ∣ x) := by
        rintro (h | h)
        · omega
        · exact hd (Int.emod_eq_zero_of_dvd h)
      have ht : x.tmod y < 0 := by
        rw [hM.out, if_neg hnd]
        have := Int.emod_lt_of_pos x hy
        omega
      have he : x.tdiv y - 1 = x / y := by
        rw [hE.out, if_neg hnd]
        have : y.sign = 1 := Int.sign_eq_one_of_pos hy
        omega
      have HE := Lib.hid he
      clear he
      go_enter Tryz.func96, Tryz.ntmps96
      go_wp2
      go_ret
      exact ⟨ret_int HE.out, rfl⟩

end Go.Proofs.YtidboecjllaofaaGreat

/- Lines and states: the program's functions. -/
namespace Go.Proofs.YtidboecjllaofaaGreat
open Go.RowKit
set_option linter.unusedVariables false

set_option maxRecDepth 100000 in
theorem indexInts_any (f : FuncId) (p : Int → Bool) (hf : ∀ args w, (callFunc f args).run Tryz.prog w = .ok (.enter f args) w) (hp : ∀ (x : Int) (w : World), Calls Tryz.prog f #[.int .i64 x] w fun e w' => e = .returned (.bool (p x)) ∧ w = w')
    (l : List Int) (a : Option Addr) (n c : Nat) (w : World) (hl : IntsR w a n l) :
    Calls Tryz.prog 179 #[.slice a n c, .func (.func f) #[] #[]] w fun e' w' => e' = .returned (.int .i64 (idxFrom p l 0)) ∧ w = w' := by
  have HL := Lib.hid hl
  have HP := Lib.hid hp
  have hn := hl.small
  clear hl hp
  go_enter Tryz.func179, Tryz.ntmps179
  go_wp2
  go_loop [8] (fun i => ∃ k : Nat, i = .int .i64 k ∧ k ≤ n ∧ Hid (idxFrom p (l.drop k) k = idxFrom p l 0)) (fun i => n - (intOf i).toNat)
  case atStart => exact ⟨0, rfl, Nat.zero_le _, rfl⟩
  case round =>
    obtain ⟨k, rfl, hk, hF⟩ := hrel
    by_cases hlt : k < n
    · obtain ⟨b, o, rfl, hb, hc⟩ := HL.out.addr (by omega)
      have hck := hc k hlt
      clear hc
      have hF' := hF.out
      rw [drop_at l k 0 (by rw [HL.out.len]; exact hlt), idxFrom] at hF'
      have HF := Lib.hid hF'; clear hF' hF
      obtain ⟨x, hx⟩ : ∃ x, x = l.getD k 0 := ⟨_, rfl⟩
      rw [← hx] at hck HF
      clear hx
      go_wp2_with fail
      refine (HP.out _ _).mono ?_
      rintro e w' ⟨rfl, rfl⟩
      by_cases hx : p x = true
      · rw [if_pos hx] at HF
        rw [hx]
        go_wp2
        go_ret
        exact ⟨ret_int HF.out, rfl⟩
      · rw [if_neg hx] at HF
        have hx' : p x = false := by simpa using hx
        rw [hx']
        clear hx hx'
        go_wp2
        go_round
        case rel => exact ⟨k + 1, by go_num, by omega, HF⟩
        case measure => simp [intOf]; omega
    · go_wp2
      go_ret
      exact ⟨ret_int (by rw [← hF.out, drop_end l k (by rw [HL.out.len]; omega)]; rfl), rfl⟩
set_option maxRecDepth 100000 in
theorem containsInts_any (f : FuncId) (p : Int → Bool) (hf : ∀ args w, (callFunc f args).run Tryz.prog w = .ok (.enter f args) w) (hp : ∀ (x : Int) (w : World), Calls Tryz.prog f #[.int .i64 x] w fun e w' => e = .returned (.bool (p x)) ∧ w = w')
    (l : List Int) (a : Option Addr) (n c : Nat) (w : World) (hl : IntsR w a n l) :
    Calls Tryz.prog 127 #[.slice a n c, .func (.func f) #[] #[]] w fun e' w' => e' = .returned (.bool (l.any p)) ∧ w = w' := by
  have HI := Lib.hid (indexInts_any f p hf hp l a n c w hl)
  clear hf hp hl
  go_enter Tryz.func127, Tryz.ntmps127
  go_wp2_with fail
  refine HI.out.mono ?_
  rintro e w' ⟨rfl, rfl⟩
  go_wp2
  go_ret
  exact ⟨ret_bool (idxFrom_any p l 0), rfl⟩
end Go.Proofs.YtidboecjllaofaaGreat

/- Lines and states: errors of a state, a step, the energy. -/
namespace Go.Proofs.YtidboecjllaofaaGreat
open Go.RowKit
set_option linter.unusedVariables false

end Go.Proofs.YtidboecjllaofaaGreat

/- Copies of lines and states, states without waves, equality of states. -/
namespace Go.Proofs.YtidboecjllaofaaGreat
open Go.RowKit
set_option linter.unusedVariables false

theorem makeInts (P : Program) (w : World) (t e : TypeId) (ht : P.underlying t = some (.slice e)) (hi : (P.info? e).map (fun i => (i.zero, i.size, i.bytes)) = some (some (.int .i64 0), 1, 8)) (n : Nat) (hn : n ≤ 100000) :
    (Instr.makeSlice t (.int .i64 n) (.int .i64 n)).run P w = .ok (.slice (some ⟨w.heap.size, 0, none⟩) n n) (w.alloc (.cells (madeCells #[.int .i64 0] n) e)) := by
  obtain ⟨i, hi1, hi2, hi3, hi4⟩ := info_parts hi
  have hr := run_make (P := P) w t e i _ ht hi1 hi2 .i64 .i64 n n (by omega) (Int.le_refl _) (by rw [hi4]; omega) (by omega)
  simp only [Int.toNat_natCast, hi3, Nat.mul_one] at hr
  exact hr

end Go.Proofs.YtidboecjllaofaaGreat

/- A region that draws its order, by a schedule: first the operations that only read (in the class S of worlds they yield one value and leave the world alone), then the others in the one order that is left, S shown anew behind each. -/
namespace Go.Proofs.YtidboecjllaofaaGreat
open Go.RowKit

/-- Operations that hand a value on and enter nothing. -/
def plainOp (o : Oper) : Bool :=
  match o.op with
  | .move _ | .assign _ | .pick _ _ _ | .load _ _ | .binOp _ _ _ _ _ | .unOp _ _ _ | .fieldAddr _ _ _ | .field _ _ _ | .indexAddr _ _ _ | .index _ _ _ | .extract _ _ | .convert _ _ _ | .build _ _ => true
  | .call c => match c.callee with | .builtin .len | .builtin .cap => true | _ => false
  | _ => false

theorem value_run {P : Program} {w : World} (s : Sem Value) (n : Next) (w' : World) (h : (do pure (Next.value (← s)) : Sem Next).run P w = .ok n w') : ∃ v, n = .value v := by
  have : ((s >>= fun v => pure (Next.value v)) : Sem Next).run P w = .ok n w' := h
  rw [Sem.run_bind] at this
  cases hs : s.run P w with
  | ok v w1 => rw [hs] at this; simp [Result.andThen] at this; exact ⟨v, this.1.symm⟩
  | halt x w1 => rw [hs] at this; simp [Result.andThen] at this

theorem plain_value {P : Program} {o : Oper} {ρ : Operand → Value} {w w' : World} {n : Next} (hp : plainOp o = true) (h : (execOp ρ o).run P w = .ok n w') : ∃ v, n = .value v := by
  obtain ⟨dst, op, ty, pos, aft, g⟩ := o
  cases op <;> simp only [plainOp] at hp <;> first | (cases hp; done) | skip
  all_goals first
    | exact value_run _ _ _ h
    | (simp [execOp] at h; exact ⟨_, h.1.symm⟩)
    | skip
  · rename_i c a b
    have h' : ((asBool (ρ c) >>= fun x => pure (Next.value (if x then ρ a else ρ b))) : Sem Next).run P w = .ok n w' := h
    rw [Sem.run_bind] at h'
    cases hs : (asBool (ρ c)).run P w with
    | ok v w1 => rw [hs] at h'; simp [Result.andThen] at h'; exact ⟨_, h'.1.symm⟩
    | halt x w1 => rw [hs] at h'; simp [Result.andThen] at h'
  · rename_i c
    obtain ⟨callee, args, ats⟩ := c
    cases callee with
    | builtin b =>
      cases b <;> first | (cases hp; done) | skip
      · rw [BigFrame.execOp_builtin, BigFrame.builtin_cap] at h; exact value_run _ _ _ h
      · rw [BigFrame.execOp_builtin, BigFrame.builtin_len] at h; exact value_run _ _ _ h
    | _ => cases hp

section
variable {P : Program} {ops : Array Oper} {md : Region.Mode} {S : World → Prop}

/-- The schedule: the operations of 'hs' may each be taken first; those of 'ts' then come in this order and in no other. -/
def tailB (md : Region.Mode) (ops : Array Oper) : List Nat → Array Bool → Bool
  | [], listed => decide (Region.ready md ops listed = [])
  | t :: ts, listed => decide (Region.ready md ops listed = [t]) && tailB md ops ts (listed.setIfInBounds t true)
def schedB (md : Region.Mode) (ops : Array Oper) (ts : List Nat) : List Nat → Array Bool → Bool
  | [], listed => tailB md ops ts listed
  | h :: hs, listed => (Region.ready md ops listed).contains h && Region.free md ops listed h && (match ops[h]? with | some o => plainOp o | none => false) && schedB md ops ts hs (listed.setIfInBounds h true)

/-- What the tail's operations are walked towards. -/
def tailQ (S : World → Prop) (Q : Exit → Act → World → Prop) (K : Act → World → Prop) : Exit → Act → World → Prop
  | .normal, a, w => S w ∧ K a w
  | .panic _, _, _ => False
  | e, a, w => Q e a w
theorem tailQ_mk {Q : Exit → Act → World → Prop} {K : Act → World → Prop} {a : Act} {w : World} (hs : S w) (hk : K a w) : tailQ S Q K .normal a w := ⟨hs, hk⟩

def wpTail (P : Program) (ops : Array Oper) (S : World → Prop) (Q : Exit → Act → World → Prop) : List Oper → Act → World → Prop
  | [], a, w => Q .normal a w
  | o :: r, a, w => wpList P ops (tailQ S Q (wpTail P ops S Q r)) [o] a w

theorem letsOut_tailQ {Q : Exit → Act → World → Prop} {K : Act → World → Prop} (h : LetsOut (tailQ S Q K)) : LetsOut (NoPanic Q) := h

theorem wpOp_of_tail {Q : Exit → Act → World → Prop} {K : Act → World → Prop} {i : Nat} {o : Oper} (ho : ops[i]? = some o) {a : Act} {w : World}
    (h : wpList P ops (tailQ S Q K) [o] a w) : wpOp P ops (NoPanic Q) i (fun a' w' => S w' ∧ K a' w') a w := by
  unfold wpOp
  simp only [ho]
  unfold wpList at h
  split
  · rename_i hw
    rw [if_pos hw] at h
    rcases h with h | h
    · refine .inl ?_
      unfold Oper.wp at *
      generalize (execOp a.eval o).run P w = r at *
      cases r with
      | ok n w' =>
        cases n <;> simp only [Oper.upon] at h ⊢
        case value u => exact h
        case skip => exact h
        case defer d => exact h
        case enter f args =>
          refine h.mono fun e w'' hh => ?_
          cases e with
          | returned v => exact hh
          | panicked chain => exact hh.elim
          | outgrown => exact letsOut_tailQ hh
        case row r args => exact h
      | halt x w' => cases x <;> simp only [Oper.upon] at h ⊢ <;> exact h.elim
    · exact .inr ⟨h.1, letsOut_tailQ h.2⟩
  · rename_i hw
    rw [if_neg hw] at h
    exact h

theorem yieldsIf_of_in {o : Oper} {v : Value} {a : Act} (hp : plainOp o = true) (h : YieldsIn P ops S o v a) : YieldsIf P ops S o v a := by
  rcases h with ⟨hw, hv⟩ | h
  · refine .inl ⟨hw, fun w hS => ?_⟩
    have h1 := hv w hS
    unfold Oper.quietAt at h1
    cases hr : (execOp a.eval o).run P w with
    | ok n w' =>
      obtain ⟨u, rfl⟩ := plain_value hp hr
      rw [hr] at h1
      simp only [Oper.quietUpon] at h1
      rw [h1.1, h1.2]
    | halt x w' => rw [hr] at h1; simp only [Oper.quietUpon] at h1
  · exact .inr h

theorem tail_anyH {Q : Exit → Act → World → Prop} : ∀ (ts : List Nat) (listed : Array Bool) (a : Act) (w : World), tailB md ops ts listed = true → (∀ t ∈ ts, t < ops.size) →
    wpTail P ops S Q (ts.filterMap (ops[·]?)) a w → wpAnyH P md ops (NoPanic Q) S ts.length listed a w
  | [], listed, a, w, hB, _, h => by
    simp only [tailB, decide_eq_true_eq] at hB
    exact ⟨hB, h⟩
  | t :: ts, listed, a, w, hB, hlt, h => by
    simp only [tailB, Bool.and_eq_true, decide_eq_true_eq] at hB
    have ht := hlt t (by simp)
    have ho : ops[t]? = some ops[t] := by simp [ht]
    rw [List.filterMap_cons_some ho] at h
    refine wpAnyH_all hB.1 (by simp) (fun i hi => ?_)
    have hit : i = t := by simpa using hi
    subst hit
    refine wpOp_mono (fun a' w' hh => ⟨hh.1, ?_⟩) (wpOp_of_tail ho h)
    exact tail_anyH ts _ a' w' hB.2 (fun x hx => hlt x (by simp [hx])) hh.2

theorem head_anyH {Q : Exit → Act → World → Prop} (hsel : Region.noSelect ops = true) (ts : List Nat) (hlt : ∀ t ∈ ts, t < ops.size) : ∀ (hs : List Nat) (listed : Array Bool) (a : Act) (w : World), schedB md ops ts hs listed = true → (∀ t ∈ hs, t < ops.size) → S w →
    wpQuiet P ops S (fun a' => wpTail P ops S Q (ts.filterMap (ops[·]?)) a' w) (hs.filterMap (ops[·]?)) a → wpAnyH P md ops (NoPanic Q) S (hs.length + ts.length) listed a w
  | [], listed, a, w, hB, _, hS, h => by
    rw [List.length_nil, Nat.zero_add]
    exact tail_anyH ts listed a w (by simpa only [schedB] using hB) hlt h
  | x :: hs, listed, a, w, hB, hl, hS, h => by
    simp only [schedB, Bool.and_eq_true] at hB
    have hx := hl x (by simp)
    have ho : ops[x]? = some ops[x] := by simp [hx]
    rw [List.filterMap_cons_some ho] at h
    rw [ho] at hB
    have hst : qOp P ops S x (wpQuiet P ops S (fun a' => wpTail P ops S Q (ts.filterMap (ops[·]?)) a' w) (hs.filterMap (ops[·]?))) a := by unfold qOp; simp only [ho]; exact h
    obtain ⟨v, hy, hK⟩ := yieldsIn_of_qOp ho hst
    rw [List.length_cons, show hs.length + 1 + ts.length = (hs.length + ts.length) + 1 by omega]
    exact wpAnyH_take ho hsel hB.1.1.2 hB.1.1.1 (fun _ _ _ h => h.elim) (yieldsIf_of_in hB.1.2 hy) hS (head_anyH hsel ts hlt hs _ _ w hB.2 (fun y hy => hl y (by simp [hy])) hS hK)

def schedOk (ops : Array Oper) (hs ts : List Nat) : Bool :=
  Region.noSelect ops && decide (hs.length + ts.length = ops.size) && hs.all (· < ops.size) && ts.all (· < ops.size) && schedB .any ops ts hs (Array.replicate ops.size false)

/-- The theorem, over operations that are written out. -/
theorem wp_region_sched {id : Nat} {Q : Exit → Act → World → Prop} {a : Act} {w : World} {l : List Oper} (hs ts : List Nat) (S : World → Prop) (hm : P.follows .mixedOrders = true) (hB : schedOk l.toArray hs ts = true) (hS : S w.drew)
    (h : wpQuiet P l.toArray S (fun a' => wpTail P l.toArray S Q (ts.filterMap (l[·]?)) a' w.drew) (hs.filterMap (l[·]?)) a) : (Code.region id l.toArray true).wp P Q a w := by
  simp only [schedOk, Bool.and_eq_true, decide_eq_true_eq, List.all_eq_true] at hB
  obtain ⟨⟨⟨⟨h1, h2⟩, h3⟩, h4⟩, h5⟩ := hB
  refine wp_region_noPanic (wp_region_held (S := S) hm ?_)
  rw [← h2] at h5 ⊢
  exact head_anyH h1 ts (fun t ht => by simpa using h4 t ht) hs _ a _ h5 (fun t ht => by simpa using h3 t ht) hS (by simpa using h)
end

/-- A world in which w0's blocks below B stand as they were. -/
structure LaterB (B : Nat) (w0 : World) where
  world : World
  below : Below B w0 world
instance laterB_nonempty (B : Nat) (w0 : World) : Nonempty (LaterB B w0) := ⟨⟨w0, Below.refl _ _⟩⟩
theorem LaterB.cell {B : Nat} {w0 : World} (u : LaterB B w0) (b o : Nat) (h : b < B) : u.world.cell? ⟨b, o, none⟩ = w0.cell? ⟨b, o, none⟩ := u.below.cell (p := ⟨b, o, none⟩) h
attribute [go_sem] LaterB.cell

section
variable {P : Program} {B : Nat}
theorem wp_region_laterB {id : Nat} {Q : Exit → Act → World → Prop} {a : Act} {w : World} {l : List Oper} (hs ts : List Nat) (hm : P.follows .mixedOrders = true) (hB : schedOk l.toArray hs ts = true)
    (h : wpQuiet P l.toArray (fun w' => ∃ u : LaterB B w, w' = u.world) (fun a' => wpTail P l.toArray (fun w' => ∃ u : LaterB B w, w' = u.world) Q (ts.filterMap (l[·]?)) a' w.drew) (hs.filterMap (l[·]?)) a) : (Code.region id l.toArray true).wp P Q a w :=
  wp_region_sched hs ts _ hm hB ⟨⟨_, (Below.refl B w).drew⟩, rfl⟩ h
theorem wpTail_cons {ops : Array Oper} {S : World → Prop} {Q : Exit → Act → World → Prop} {o : Oper} {r : List Oper} {a : Act} {w : World} (h : wpList P ops (tailQ S Q (wpTail P ops S Q r)) [o] a w) : wpTail P ops S Q (o :: r) a w := h
theorem wpTail_nil {ops : Array Oper} {S : World → Prop} {Q : Exit → Act → World → Prop} {a : Act} {w : World} (h : Q .normal a w) : wpTail P ops S Q [] a w := h
theorem tailL_mk {Q : Exit → Act → World → Prop} {K : Act → World → Prop} {a : Act} {w w' : World} (hs : Below B w w') (hk : K a w') : tailQ (fun w' => ∃ u : LaterB B w, w' = u.world) Q K .normal a w' := ⟨⟨⟨w', hs⟩, rfl⟩, hk⟩
end
/-- w' has w's cells in all blocks below B, but for the block b0. -/
def SameX (B b0 : Nat) (w w' : World) : Prop := ∀ b o, b < B → b ≠ b0 → w'.cell? ⟨b, o, none⟩ = w.cell? ⟨b, o, none⟩
theorem SameX.of_below {B b0 : Nat} {w w' : World} (h : Below B w w') : SameX B b0 w w' := fun b o hb _ => h.cell (p := ⟨b, o, none⟩) hb
theorem SameX.set {B b0 o : Nat} {w w' : World} (h : SameX B b0 w w') (v : Value) : SameX B b0 w (w'.setCell ⟨b0, o, none⟩ v) := fun b o' hb hne => by
  rw [World.cell?_setCell_other _ ⟨b0, o, none⟩ ⟨b, o', none⟩ _ (by first | (simp; done) | (simp; exact fun h => absurd h hne))]; exact h b o' hb hne
theorem SameX.above {B b0 b1 o : Nat} {w w' : World} (h : SameX B b0 w w') (h1 : B ≤ b1) (v : Value) : SameX B b0 w (w'.setCell ⟨b1, o, none⟩ v) := fun b o' hb hne => by
  rw [World.cell?_setCell_other _ ⟨b1, o, none⟩ ⟨b, o', none⟩ _ (by first | (simp; done) | (simp; omega))]; exact h b o' hb hne
theorem SameX.drew {B b0 : Nat} {w w' : World} (h : SameX B b0 w w') : SameX B b0 w w'.drew := h
structure LaterX (B b0 : Nat) (w0 : World) where
  world : World
  same : SameX B b0 w0 world
instance laterX_nonempty (B b0 : Nat) (w0 : World) : Nonempty (LaterX B b0 w0) := ⟨⟨w0, fun _ _ _ _ => rfl⟩⟩
/-- The block b is one of those that stand. -/
def OkB (b B b0 : Nat) : Prop := b < B ∧ b ≠ b0
theorem LaterX.cell {B b0 : Nat} {w0 : World} (u : LaterX B b0 w0) (b o : Nat) (h : OkB b B b0) : u.world.cell? ⟨b, o, none⟩ = w0.cell? ⟨b, o, none⟩ := u.same b o h.1 h.2
attribute [go_sem] LaterX.cell
theorem wp_region_laterX {P : Program} {B b0 : Nat} {id : Nat} {Q : Exit → Act → World → Prop} {a : Act} {w : World} {l : List Oper} (hs ts : List Nat) (hm : P.follows .mixedOrders = true) (hB : schedOk l.toArray hs ts = true)
    (h : wpQuiet P l.toArray (fun w' => ∃ u : LaterX B b0 w, w' = u.world) (fun a' => wpTail P l.toArray (fun w' => ∃ u : LaterX B b0 w, w' = u.world) Q (ts.filterMap (l[·]?)) a' w.drew) (hs.filterMap (l[·]?)) a) : (Code.region id l.toArray true).wp P Q a w :=
  wp_region_sched hs ts _ hm hB ⟨⟨_, SameX.drew (fun _ _ _ _ => rfl)⟩, rfl⟩ h
theorem tailX_mk {B b0 : Nat} {Q : Exit → Act → World → Prop} {K : Act → World → Prop} {a : Act} {w w' : World} (hs : SameX B b0 w w') (hk : K a w') : tailQ (fun w' => ∃ u : LaterX B b0 w, w' = u.world) Q K .normal a w' := ⟨⟨⟨w', hs⟩, rfl⟩, hk⟩
end Go.Proofs.YtidboecjllaofaaGreat

/- Which ladders are valid. -/
namespace Go.Proofs.YtidboecjllaofaaGreat
open Go.RowKit
set_option linter.unusedVariables false

def ok3 (x : Int × Int × Int) : Bool := wi x.1 1 100 && wi x.2.1 0 100 && wi x.2.2 1 1000
def ladAll (s e t : List Int) (k : Nat) : Bool := ((s.drop k).zip ((e.drop k).zip (t.drop k))).all ok3
theorem ladAll_step (s e t : List Int) (k : Nat) (h1 : k < s.length) (h2 : k < e.length) (h3 : k < t.length) :
    ladAll s e t k = (wi (s.getD k 0) 1 100 && wi (e.getD k 0) 0 100 && wi (t.getD k 0) 1 1000 && ladAll s e t (k + 1)) := by
  unfold ladAll
  rw [drop_at s k 0 h1, drop_at e k 0 h2, drop_at t k 0 h3]
  rfl
theorem ladAll_end (s e t : List Int) : ladAll s e t s.length = true := by
  unfold ladAll; simp
/-- The error of a ladder. -/
def ladErr (s e t : List Int) : Int :=
  if 0 < s.length ∧ e.length = s.length ∧ t.length = s.length then (if s.length ≤ 6 then unl (ladAll s e t 0) 2 else 8) else 10

end Go.Proofs.YtidboecjllaofaaGreat

/- The energy of a state. -/
namespace Go.Proofs.YtidboecjllaofaaGreat
open Go.RowKit
set_option linter.unusedVariables false

end Go.Proofs.YtidboecjllaofaaGreat

/- What a step computes: plain lists. -/
namespace Go.Proofs.YtidboecjllaofaaGreat

/-- Getting an element. -/
abbrev g0 (l : List Int) (i : Nat) : Int := l.getD i 0
def sB (y f b : List Int) (i : Nat) : Int := (g0 f i * (g0 y i - g0 y (i + 1)) + 2 * g0 b (i + 1) * g0 y (i + 1)).tdiv (g0 y i + g0 y (i + 1))
def sF (y f b : List Int) (i : Nat) : Int := (g0 b (i + 1) * (g0 y (i + 1) - g0 y i) + 2 * g0 f i * g0 y i).tdiv (g0 y i + g0 y (i + 1))
def sV (y f b : List Int) (i : Nat) : Int := (2 * (g0 f i * g0 y i + g0 b (i + 1) * g0 y (i + 1))).tdiv (g0 y i + g0 y (i + 1))
/-- The lists after k junctions; n: the number of sections, m = n - 1. -/
def fwdAt (y f b : List Int) (s : Int) (m k : Nat) : List Int := (s - g0 b 0) :: ((List.range k).map (sF y f b) ++ List.replicate (m - k) 0)
def bckAt (y f b : List Int) (m k : Nat) : List Int := (List.range k).map (sB y f b) ++ List.replicate (m + 1 - k) 0
def volAt (y f b : List Int) (s : Int) (k : Nat) : List Int := s :: (List.range k).map (sV y f b)
def outF (y f b : List Int) (s : Int) : List Int := (s - g0 b 0) :: (List.range (y.length - 1)).map (sF y f b)
def outB (y f b : List Int) (e : Bool) : List Int := (List.range (y.length - 1)).map (sB y f b) ++ [if e then -g0 f (y.length - 1) else g0 f (y.length - 1)]
def outV (y f b : List Int) (s : Int) (e : Bool) : List Int := s :: ((List.range (y.length - 1)).map (sV y f b) ++ [if e then 0 else 2 * g0 f (y.length - 1)])

theorem set_mid {α : Type} (a : List α) (x y : α) (r : List α) (k : Nat) (h : a.length = k) : (a ++ x :: r).set k y = a ++ y :: r := by
  subst h; simp
theorem fwd_len (y f b : List Int) (s : Int) (m k : Nat) (h : k ≤ m) : (fwdAt y f b s m k).length = m + 1 := by simp [fwdAt]; omega
theorem bck_len (y f b : List Int) (m k : Nat) (h : k ≤ m + 1) : (bckAt y f b m k).length = m + 1 := by simp [bckAt]; omega
theorem vol_len (y f b : List Int) (s : Int) (k : Nat) : (volAt y f b s k).length = k + 1 := by simp [volAt]
theorem fwd_set (y f b : List Int) (s : Int) (m k : Nat) (h : k < m) : (fwdAt y f b s m k).set (k + 1) (sF y f b k) = fwdAt y f b s m (k + 1) := by
  unfold fwdAt
  rw [show m - k = (m - (k + 1)) + 1 by omega, List.replicate_succ, List.set_cons_succ, set_mid _ _ _ _ k (by simp), List.range_succ, List.map_append, List.append_assoc]
  rfl
theorem bck_set (y f b : List Int) (m k : Nat) (h : k < m) : (bckAt y f b m k).set k (sB y f b k) = bckAt y f b m (k + 1) := by
  unfold bckAt
  rw [show m + 1 - k = (m + 1 - (k + 1)) + 1 by omega, List.replicate_succ, set_mid _ _ _ _ k (by simp), List.range_succ, List.map_append, List.append_assoc]
  rfl
theorem bck_end (y f b : List Int) (m : Nat) (x : Int) : (bckAt y f b m m).set m x = (List.range m).map (sB y f b) ++ [x] := by
  unfold bckAt
  rw [show m + 1 - m = 0 + 1 by omega, List.replicate_succ, set_mid _ _ _ _ m (by simp)]
  rfl
theorem vol_snoc (y f b : List Int) (s : Int) (k : Nat) : volAt y f b s k ++ [sV y f b k] = volAt y f b s (k + 1) := by
  simp [volAt, List.range_succ]
theorem fwd_end (y f b : List Int) (s : Int) (m : Nat) : fwdAt y f b s m m = (s - g0 b 0) :: (List.range m).map (sF y f b) := by simp [fwdAt]
theorem fwd_start (y f b : List Int) (s : Int) (m : Nat) : (List.replicate (m + 1) (0 : Int)).set 0 (s - g0 b 0) = fwdAt y f b s m 0 := by
  simp [fwdAt, List.replicate_succ]
theorem bck_start (y f b : List Int) (m : Nat) : List.replicate (m + 1) (0 : Int) = bckAt y f b m 0 := by simp [bckAt]
theorem icells_set (l : List Int) (k : Nat) (x : Int) : (l.map (fun n => n)).set k x = l.set k x := by simp
end Go.Proofs.YtidboecjllaofaaGreat

/- Plain parts that both steps use. -/
namespace Go.Proofs.YtidboecjllaofaaGreat
open Go.RowKit
set_option linter.unusedVariables false

theorem owns_heap {w w' : World} {base n sz : Nat} {e : TypeId} {v : Value} {xs : List Value} (h : w.ownsRow base e sz v n xs) (hh : w'.heap = w.heap) : w'.ownsRow base e sz v n xs := by
  unfold World.ownsRow at *; rw [hh]; exact h
theorem calls_drew_gen {P : Program} {f : FuncId} {args : Array Value} {w : World} {k n : Nat} {v : Value}
    (h : Calls P f args (w.drewN (k + n)) fun e w' => e = .returned v ∧ w.drewN (k + n) = w') : Calls P f args (w.drewN (k + n)) fun e w'' => e = .returned v ∧ ∃ m, w'' = w.drewN (k + m) :=
  h.mono fun _ _ ⟨he, hm⟩ => ⟨he, n, hm.symm⟩
theorem two_new (w7 : World) (a b c : Value) (t t2 : TypeId) : ∃ w8, w8 = (w7.alloc (.cells #[a, b] t)).alloc (.cells #[c] t2) ∧ w8.cell? ⟨w7.heap.size, 0, none⟩ = some a ∧ w8.cell? ⟨w7.heap.size, 1, none⟩ = some b ∧ Below w7.heap.size w7 w8 ∧ w7.heap.size + 1 < w8.heap.size ∧
    w8.ownsRow (w7.heap.size + 1) t2 1 (.slice (some ⟨w7.heap.size + 1, 0, none⟩) 1 1) 1 [c] := by
  refine ⟨_, rfl, by go_simp, by go_simp, by (repeat' (first | (with_reducible exact Below.refl _ _) | (with_reducible assumption) | (with_reducible refine Below.drewN ?_ _) | (with_reducible refine Below.alloc ?_ ?_ _) | (with_reducible refine Below.drew ?_) | (with_reducible refine Below.setCell ?_ ?_ _) | (with_reducible refine Below.step (by assumption) ?_ ?_) | (with_reducible exact And.left (by assumption)) | go_size)), by simp, ?_⟩
  exact owns_lit (cs := #[c]) (by simp) (Nat.le_refl _) (by omega) rfl

theorem icells_set' (l : List Int) (k : Nat) (x : Int) : (icells l).set k (.int .i64 x) = icells (l.set k x) := by simp [icells, List.map_set]

/-- What a step hands out. -/
def StepPost (y f b : List Int) (s : Int) (e : Bool) (n : Nat) (w : World) (e' : Ending) (w' : World) : Prop :=
  Below w.heap.size w w' ∧ ((stErr y (outF y f b s) (outB y f b e) ≠ 0 ∧ e' = .returned (.tuple #[.agg #[.slice none 0 0, .slice none 0 0], .slice none 0 0, .int .i64 22])) ∨
    (stErr y (outF y f b s) (outB y f b e) = 0 ∧ ∃ g1 g2 av cv, e' = .returned (.tuple #[.agg #[.slice (some ⟨g1, 0, none⟩) n n, .slice (some ⟨g2, 0, none⟩) n n], .slice av (n + 1) cv, .int .i64 0]) ∧
      IntsR w' (some ⟨g1, 0, none⟩) n (outF y f b s) ∧ IntsR w' (some ⟨g2, 0, none⟩) n (outB y f b e) ∧ IntsR w' av (n + 1) (outV y f b s e)))

/-- The same, with rows that are new. -/
def StepPost2 (y f b : List Int) (s : Int) (e : Bool) (n : Nat) (w : World) (e' : Ending) (w' : World) : Prop :=
  Below w.heap.size w w' ∧ ((stErr y (outF y f b s) (outB y f b e) ≠ 0 ∧ e' = .returned (.tuple #[.agg #[.slice none 0 0, .slice none 0 0], .slice none 0 0, .int .i64 22])) ∨
    (stErr y (outF y f b s) (outB y f b e) = 0 ∧ ∃ g1 g2 av cv, e' = .returned (.tuple #[.agg #[.slice (some ⟨g1, 0, none⟩) n n, .slice (some ⟨g2, 0, none⟩) n n], .slice av (n + 1) cv, .int .i64 0]) ∧
      w'.ownsRow w.heap.size 3 1 (.slice (some ⟨g1, 0, none⟩) n n) n (icells (outF y f b s)) ∧ w'.ownsRow w.heap.size 3 1 (.slice (some ⟨g2, 0, none⟩) n n) n (icells (outB y f b e)) ∧ w'.ownsRow w.heap.size 3 1 (.slice av (n + 1) cv) (n + 1) (icells (outV y f b s e))))
theorem StepPost2.weak {y f b : List Int} {s : Int} {e : Bool} {n : Nat} {w : World} {e' : Ending} {w' : World} (h : StepPost2 y f b s e n w e' w') : StepPost y f b s e n w e' w' := by
  refine ⟨h.1, h.2.imp id ?_⟩
  rintro ⟨h0, g1, g2, av, cv, rfl, h1, h2, h3⟩
  exact ⟨h0, g1, g2, av, cv, rfl, SlR.of_owns h1, SlR.of_owns h2, SlR.of_owns h3⟩

theorem fin_F {y f b : List Int} {s : Int} {k : Nat} (hy : y.length = k + 1) : fwdAt y f b s k k = outF y f b s := by
  unfold outF; rw [fwd_end, hy]; rfl
theorem fin_B {y f b : List Int} {k : Nat} (e : Bool) (x : Int) (hy : y.length = k + 1) (hx : x = if e then -g0 f k else g0 f k) : (bckAt y f b k k).set k x = outB y f b e := by
  unfold outB; rw [bck_end, hy, hx]; rfl
theorem fin_V {y f b : List Int} {s : Int} {k : Nat} (e : Bool) (x : Int) (hy : y.length = k + 1) (hx : x = if e then 0 else 2 * g0 f k) : volAt y f b s k ++ [x] = outV y f b s e := by
  unfold outV volAt; rw [hy, hx]; rfl
theorem set_twice (l : List Int) (k : Nat) (x y : Int) : (l.set k x).set k y = l.set k y := by simp

end Go.Proofs.YtidboecjllaofaaGreat

/- The chain of capacitances: its small functions. -/
namespace Go.Proofs.YtidboecjllaofaaGreat
open Go.RowKit
set_option linter.unusedVariables false

/-- The last node whose voltage is not given. -/
def lastOf (n : Nat) (g : Bool) : Int := if g then (n : Int) - 1 else n
/-- The sum of a node's capacitances. -/
def ownOf (s e : List Int) (k : Nat) : Int := if k + 1 < s.length then s.getD k 0 + e.getD k 0 + s.getD (k + 1) 0 else s.getD k 0 + e.getD k 0
end Go.Proofs.YtidboecjllaofaaGreat

/- The determinants of the node equations: plain lists. -/
namespace Go.Proofs.YtidboecjllaofaaGreat
set_option linter.unusedVariables false

/-- The determinant of the last m equations of L. -/
def dd (s e : List Int) (L : Nat) : Nat → Int
  | 0 => 1
  | 1 => ownOf s e (L - 1)
  | m + 2 => ownOf s e (L - m - 2) * dd s e L (m + 1) - s.getD (L - m - 1) 0 * s.getD (L - m - 1) 0 * dd s e L m
/-- The list of determinants while the nodes above j are done. -/
def ddAt (s e : List Int) (n L j : Nat) : List Int := (List.range (n + 3)).map (fun i => if j < i ∧ i ≤ L + 1 then dd s e L (L + 1 - i) else 0)
theorem ddAt_len (s e : List Int) (n L j : Nat) : (ddAt s e n L j).length = n + 3 := by simp [ddAt]
theorem ddAt_get (s e : List Int) (n L j i : Nat) (h : i < n + 3) : (ddAt s e n L j).getD i 0 = if j < i ∧ i ≤ L + 1 then dd s e L (L + 1 - i) else 0 := by
  simp [ddAt, List.getD, h]
theorem ddAt_set (s e : List Int) (n L j : Nat) (hj : j ≤ L) (hL : L + 1 < n + 3) : (ddAt s e n L (j + 1)).set (j + 1) (dd s e L (L - j)) = ddAt s e n L j := by
  apply List.ext_getElem
  · simp [ddAt]
  · intro i h1 h2
    simp only [ddAt, List.getElem_set, List.getElem_map, List.getElem_range]
    by_cases hi : j + 1 = i
    · subst hi
      rw [if_pos rfl, if_pos (by omega)]
      congr 1; omega
    · rw [if_neg hi]
      by_cases h3 : j < i ∧ i ≤ L + 1
      · rw [if_pos h3, if_pos (by omega)]
      · rw [if_neg h3, if_neg (by omega)]
theorem ddAt_start (s e : List Int) (n L : Nat) (hL : L + 1 < n + 3) : (List.replicate (n + 3) (0 : Int)).set (L + 1) 1 = ddAt s e n L L := by
  apply List.ext_getElem
  · simp [ddAt]
  · intro i h1 h2
    simp only [ddAt, List.getElem_set, List.getElem_map, List.getElem_range, List.getElem_replicate]
    by_cases hi : L + 1 = i
    · subst hi; simp [dd]
    · rw [if_neg hi, if_neg (by omega)]
theorem own_bd (s e : List Int) (k : Nat) (bs : ∀ x ∈ s, 0 ≤ x ∧ x ≤ 100) (be : ∀ x ∈ e, 0 ≤ x ∧ x ≤ 100) : 0 ≤ ownOf s e k ∧ ownOf s e k ≤ 300 := by
  have gs : ∀ i, 0 ≤ s.getD i 0 ∧ s.getD i 0 ≤ 100 := fun i => by
    by_cases h : i < s.length
    · exact bs _ (getD_mem h)
    · simp [List.getD, Nat.not_lt.1 h]
  have ge : ∀ i, 0 ≤ e.getD i 0 ∧ e.getD i 0 ≤ 100 := fun i => by
    by_cases h : i < e.length
    · exact be _ (getD_mem h)
    · simp [List.getD, Nat.not_lt.1 h]
  have := gs k; have := ge k; have := gs (k + 1)
  unfold ownOf; split <;> omega
theorem dd_bd (s e : List Int) (L : Nat) (bs : ∀ x ∈ s, 0 ≤ x ∧ x ≤ 100) (be : ∀ x ∈ e, 0 ≤ x ∧ x ≤ 100) : ∀ m, (-(400 : Int) ^ m ≤ dd s e L m ∧ dd s e L m ≤ 400 ^ m) ∧ (-(400 : Int) ^ (m + 1) ≤ dd s e L (m + 1) ∧ dd s e L (m + 1) ≤ 400 ^ (m + 1))
  | 0 => by
    have := own_bd s e (L - 1) bs be
    simp [dd]; omega
  | m + 1 => by
    obtain ⟨h1, h2⟩ := dd_bd s e L bs be m
    refine ⟨h2, ?_⟩
    have ho := own_bd s e (L - m - 2) bs be
    have hs : 0 ≤ s.getD (L - m - 1) 0 ∧ s.getD (L - m - 1) 0 ≤ 100 := by
      by_cases h : (L - m - 1) < s.length
      · exact bs _ (getD_mem h)
      · simp [List.getD, Nat.not_lt.1 h]
    simp only [dd]
    generalize s.getD (L - m - 1) 0 = x at hs
    generalize ownOf s e (L - m - 2) = o at ho
    generalize dd s e L m = p at h1
    generalize dd s e L (m + 1) = q at h2
    have e1 : (400 : Int) ^ (m + 1) = 400 * 400 ^ m := by rw [Int.pow_succ]; omega
    have e2 : (400 : Int) ^ (m + 1 + 1) = 160000 * 400 ^ m := by rw [Int.pow_succ, e1]; omega
    rw [e1] at h2
    rw [e2]
    have hp : (0 : Int) < 400 ^ m := Int.pow_pos (by omega)
    generalize (400 : Int) ^ m = P at *
    have b1 : -(120000 * P) ≤ o * q ∧ o * q ≤ 120000 * P := by
      constructor
      · have := Int.mul_le_mul_of_nonneg_left h2.1 ho.1
        have h5 : o * P ≤ 300 * P := Int.mul_le_mul_of_nonneg_right ho.2 (by omega)
        have : o * (-(400 * P)) = -(400 * (o * P)) := by rw [Int.mul_neg, Int.mul_left_comm]
        omega
      · have := Int.mul_le_mul_of_nonneg_left h2.2 ho.1
        have h5 : o * P ≤ 300 * P := Int.mul_le_mul_of_nonneg_right ho.2 (by omega)
        have : o * (400 * P) = 400 * (o * P) := by rw [Int.mul_left_comm]
        omega
    have hxx : 0 ≤ x * x ∧ x * x ≤ 10000 := ⟨Int.mul_nonneg hs.1 hs.1, by have := Int.mul_le_mul hs.2 hs.2 hs.1 (by omega : (0:Int) ≤ 100); omega⟩
    have b2 : -(10000 * P) ≤ x * x * p ∧ x * x * p ≤ 10000 * P := by
      generalize x * x = z at hxx
      constructor
      · have := Int.mul_le_mul_of_nonneg_left h1.1 hxx.1
        have h5 : z * P ≤ 10000 * P := Int.mul_le_mul_of_nonneg_right hxx.2 (by omega)
        have : z * (-P) = -(z * P) := by rw [Int.mul_neg]
        omega
      · have := Int.mul_le_mul_of_nonneg_left h1.2 hxx.1
        have h5 : z * P ≤ 10000 * P := Int.mul_le_mul_of_nonneg_right hxx.2 (by omega)
        omega
    omega

/-- The product of the first k series capacitances. -/
def pr (s : List Int) : Nat → Int
  | 0 => 1
  | k + 1 => pr s k * s.getD k 0
/-- The numerators of the initial voltages, the first k of them. -/
def numsAt (s e : List Int) (n L k : Nat) : List Int := (List.range (n + 1)).map (fun j => if j < k ∧ j ≤ L then pr s j * dd s e L (L - j) else 0)
def numsOf (s e : List Int) (n L : Nat) : List Int := (List.range (n + 1)).map (fun j => if j ≤ L then pr s j * dd s e L (L - j) else 0)
theorem nums_len (s e : List Int) (n L k : Nat) : (numsAt s e n L k).length = n + 1 := by simp [numsAt]
theorem nums_get (s e : List Int) (n L k : Nat) (h : k < n + 1) : (numsAt s e n L k).getD k 0 = 0 := by
  simp [numsAt, List.getD, h]
theorem nums_set (s e : List Int) (n L k : Nat) (hk : k ≤ L) : (numsAt s e n L k).set k (pr s k * dd s e L (L - k)) = numsAt s e n L (k + 1) := by
  apply List.ext_getElem
  · simp [numsAt]
  · intro i h1 h2
    simp only [numsAt, List.getElem_set, List.getElem_map, List.getElem_range]
    by_cases hi : k = i
    · subst hi; rw [if_pos rfl, if_pos (by omega)]
    · rw [if_neg hi]
      by_cases h3 : i < k ∧ i ≤ L
      · rw [if_pos h3, if_pos (by omega)]
      · rw [if_neg h3, if_neg (by omega)]
theorem nums_start (s e : List Int) (n L : Nat) : List.replicate (n + 1) (0 : Int) = numsAt s e n L 0 := by
  simp [numsAt, List.map_const']
theorem nums_end (s e : List Int) (n L : Nat) : numsAt s e n L (L + 1) = numsOf s e n L := by
  unfold numsAt numsOf
  refine List.map_congr_left fun j _ => ?_
  by_cases h : j ≤ L
  · rw [if_pos h, if_pos (by omega)]
  · rw [if_neg h, if_neg (by omega)]
theorem pr_bd (s : List Int) (bs : ∀ x ∈ s, 0 ≤ x ∧ x ≤ 100) : ∀ k, 0 ≤ pr s k ∧ pr s k ≤ 100 ^ k
  | 0 => by simp [pr]
  | k + 1 => by
    obtain ⟨h1, h2⟩ := pr_bd s bs k
    have hs : 0 ≤ s.getD k 0 ∧ s.getD k 0 ≤ 100 := by
      by_cases h : k < s.length
      · exact bs _ (getD_mem h)
      · simp [List.getD, Nat.not_lt.1 h]
    simp only [pr]
    refine ⟨Int.mul_nonneg h1 hs.1, ?_⟩
    rw [Int.pow_succ]
    exact Int.mul_le_mul h2 hs.2 hs.1 (Int.le_of_lt (Int.pow_pos (by omega)))
end Go.Proofs.YtidboecjllaofaaGreat

/- Plain facts: determinants are above 0; fractions. -/
namespace Go.Proofs.YtidboecjllaofaaGreat
open Go.RowKit
set_option linter.unusedVariables false

theorem gd_nn {l : List Int} (h : ∀ x ∈ l, 0 ≤ x ∧ x ≤ 100) (k : Nat) : 0 ≤ l.getD k 0 := by
  by_cases hk : k < l.length
  · exact (h _ (getD_mem hk)).1
  · rw [List.getD_eq_getElem?_getD, List.getElem?_eq_none (by omega)]; exact Int.le_refl _

theorem gd_bd {l : List Int} {lo hi : Int} (h : ∀ x ∈ l, lo ≤ x ∧ x ≤ hi) {k : Nat} (hk : k < l.length) : lo ≤ l.getD k 0 ∧ l.getD k 0 ≤ hi := h _ (getD_mem hk)
theorem dd_grow (s e : List Int) (L : Nat) (bs : ∀ x ∈ s, 1 ≤ x ∧ x ≤ 100) (be : ∀ x ∈ e, 0 ≤ x ∧ x ≤ 100) (hL : L ≤ s.length) : ∀ m, m + 1 ≤ L → 0 < dd s e L m ∧ s.getD (L - m - 1) 0 * dd s e L m ≤ dd s e L (m + 1)
  | 0, h => by
    have h1 := gd_bd bs (k := L - 0 - 1) (by omega)
    have ge := gd_nn be (L - 0 - 1)
    refine ⟨by simp [dd], ?_⟩
    simp only [dd, Int.mul_one]
    unfold ownOf
    rw [show L - 0 - 1 = L - 1 by omega] at *
    split
    · have := gd_bd bs (k := L - 1 + 1) (by assumption)
      omega
    · omega
  | m + 1, h => by
    obtain ⟨h1, h2⟩ := dd_grow s e L bs be hL m (by omega)
    have h3 := gd_bd bs (k := L - m - 1) (by omega)
    have h4 := gd_bd bs (k := L - (m + 1) - 1) (by omega)
    have ge := gd_nn be (L - (m + 1) - 1)
    have hp : 0 < dd s e L (m + 1) := by
      have : 0 < s.getD (L - m - 1) 0 * dd s e L m := Int.mul_pos (by omega) h1
      omega
    refine ⟨hp, ?_⟩
    have ho : ownOf s e (L - m - 2) = s.getD (L - (m + 1) - 1) 0 + e.getD (L - (m + 1) - 1) 0 + s.getD (L - m - 1) 0 := by
      unfold ownOf
      rw [if_pos (by omega), show L - m - 2 = L - (m + 1) - 1 by omega, show L - (m + 1) - 1 + 1 = L - m - 1 by omega]
    simp only [dd]
    rw [ho]
    generalize s.getD (L - (m + 1) - 1) 0 = x at *
    generalize e.getD (L - (m + 1) - 1) 0 = y at *
    generalize s.getD (L - m - 1) 0 = z at *
    generalize dd s e L m = p at *
    generalize dd s e L (m + 1) = q at *
    have e1 : (x + y + z) * q - z * z * p = x * q + (y * q + z * (q - z * p)) := by
      rw [Int.add_mul, Int.add_mul, Int.mul_sub, Int.mul_assoc]; omega
    have : 0 ≤ y * q := Int.mul_nonneg ge (by omega)
    have : 0 ≤ z * (q - z * p) := Int.mul_nonneg (by omega) (by omega)
    omega
theorem dd_pos (s e : List Int) (L : Nat) (bs : ∀ x ∈ s, 1 ≤ x ∧ x ≤ 100) (be : ∀ x ∈ e, 0 ≤ x ∧ x ≤ 100) (hL : L ≤ s.length) (m : Nat) (hm : m ≤ L) : 0 < dd s e L m := by
  rcases m with _ | k
  · simp [dd]
  · have h := dd_grow s e L bs be hL k hm
    have h3 := gd_bd bs (k := L - k - 1) (by omega)
    have : 0 < s.getD (L - k - 1) 0 * dd s e L k := Int.mul_pos (by omega) h.1
    omega
theorem pr_pos (s : List Int) (bs : ∀ x ∈ s, 1 ≤ x ∧ x ≤ 100) : ∀ k, k ≤ s.length → 0 < pr s k
  | 0, _ => by simp [pr]
  | k + 1, h => by
    have := gd_bd bs (k := k) (by omega)
    exact Int.mul_pos (pr_pos s bs k (by omega)) (by omega)
/-- The numerators fall. -/
theorem nu_fall (s e : List Int) (L : Nat) (bs : ∀ x ∈ s, 1 ≤ x ∧ x ≤ 100) (be : ∀ x ∈ e, 0 ≤ x ∧ x ≤ 100) (hL : L ≤ s.length) (j : Nat) (hj : j + 1 ≤ L) : pr s (j + 1) * dd s e L (L - (j + 1)) ≤ pr s j * dd s e L (L - j) := by
  have h := (dd_grow s e L bs be hL (L - (j + 1)) (by omega)).2
  rw [show L - (L - (j + 1)) - 1 = j by omega, show L - (j + 1) + 1 = L - j by omega] at h
  simp only [pr]
  rw [Int.mul_assoc]
  exact Int.mul_le_mul_of_nonneg_left h (Int.le_of_lt (pr_pos s bs j (by omega)))
theorem nu_bd (s e : List Int) (L : Nat) (bs : ∀ x ∈ s, 1 ≤ x ∧ x ≤ 100) (be : ∀ x ∈ e, 0 ≤ x ∧ x ≤ 100) (hL : L ≤ s.length) : ∀ j, j ≤ L → 0 < pr s j * dd s e L (L - j) ∧ pr s j * dd s e L (L - j) ≤ dd s e L L
  | 0, h => by
    simp only [pr, Nat.sub_zero, Int.one_mul]
    exact ⟨dd_pos s e L bs be hL L (Nat.le_refl _), Int.le_refl _⟩
  | j + 1, h => by
    have h1 := nu_bd s e L bs be hL j (by omega)
    have h2 := nu_fall s e L bs be hL j h
    exact ⟨Int.mul_pos (pr_pos s bs (j + 1) (by omega)) (dd_pos s e L bs be hL _ (by omega)), by omega⟩
theorem nums_bd (s e : List Int) (n L : Nat) (bs : ∀ x ∈ s, 1 ≤ x ∧ x ≤ 100) (be : ∀ x ∈ e, 0 ≤ x ∧ x ≤ 100) (hL : L ≤ s.length) : ∀ x ∈ numsOf s e n L, 0 ≤ x ∧ x ≤ dd s e L L := by
  intro x hx
  unfold numsOf at hx
  obtain ⟨j, _, rfl⟩ := List.mem_map.1 hx
  have hp := dd_pos s e L bs be hL L (Nat.le_refl _)
  by_cases h : j ≤ L
  · rw [if_pos h]; have := nu_bd s e L bs be hL j h; omega
  · rw [if_neg h]; omega

/-- A fraction in lowest terms; whether its parts are small. -/
def low (a b : Int) : Int × Int := (a.tdiv (gc a b), b / gc a b)
def smallF (f : Int × Int) : Bool := wi f.1 (-1000000000) 1000000000 && decide (f.2 ≤ 1000000000)
/-- Pairs as cells. -/
def pcells (l : List (Int × Int)) : List Value := l.flatMap fun f => [.int .i64 f.1, .int .i64 f.2]
theorem pcells_length : ∀ l : List (Int × Int), (pcells l).length = l.length * 2
  | [] => rfl
  | f :: r => by have := pcells_length r; simp only [pcells, List.flatMap_cons, List.length_append, List.length_cons, List.length_nil] at *; omega
theorem pcells_append (a b : List (Int × Int)) : pcells (a ++ b) = pcells a ++ pcells b := by simp [pcells]
theorem pcells_get : ∀ (l : List (Int × Int)) (i : Nat), i < l.length → (pcells l)[i * 2]? = some (.int .i64 (l.getD i (0, 0)).1) ∧ (pcells l)[i * 2 + 1]? = some (.int .i64 (l.getD i (0, 0)).2)
  | [], i, h => by simp at h
  | f :: r, 0, _ => by simp [pcells]
  | f :: r, i + 1, h => by
    have := pcells_get r i (by simpa using h)
    simp only [pcells, List.flatMap_cons, List.cons_append, List.nil_append] at *
    rw [show (i + 1) * 2 = i * 2 + 1 + 1 by omega]
    simpa using this
theorem pcells_one (l : List (Int × Int)) : ∀ u ∈ pcells l, u.oneCell' = true := by
  intro u hu
  simp only [pcells, List.mem_flatMap] at hu
  obtain ⟨f, _, hf⟩ := hu
  simp at hf
  rcases hf with rfl | rfl <;> rfl
/-- A slice of pairs. -/
def PairsR (w : World) (a : Option Addr) (n : Nat) (l : List (Int × Int)) : Prop := SlR w a n 2 (pcells l)
theorem PairsR.len {w : World} {a : Option Addr} {n : Nat} {l : List (Int × Int)} (h : PairsR w a n l) : l.length = n := by
  have := h.1; rw [pcells_length] at this; omega
theorem PairsR.below {w w' : World} {a : Option Addr} {n : Nat} {l : List (Int × Int)} (h : PairsR w a n l) (hb : Below w.heap.size w w') : PairsR w' a n l := SlR.below h hb
theorem PairsR.small {w : World} {a : Option Addr} {n : Nat} {l : List (Int × Int)} (h : PairsR w a n l) : n ≤ 9223372036854775807 := SlR.small h
theorem PairsR.addr {w : World} {a : Option Addr} {n : Nat} {l : List (Int × Int)} (h : PairsR w a n l) (hn : 0 < n) :
    ∃ b o, a = some ⟨b, o, none⟩ ∧ b < w.heap.size ∧ ∀ i, i < n → w.cell? ⟨b, o + i * 2, none⟩ = some (.int .i64 (l.getD i (0, 0)).1) ∧ w.cell? ⟨b, o + i * 2 + 1, none⟩ = some (.int .i64 (l.getD i (0, 0)).2) := by
  obtain ⟨b, o, ha, hlt, hc⟩ := h.2.2 hn
  refine ⟨b, o, ha, hlt, fun i hi => ?_⟩
  have := pcells_get l i (by rw [h.len]; exact hi)
  exact ⟨hc _ _ this.1, by have := hc _ _ this.2; rwa [← Nat.add_assoc] at this⟩
theorem PairsR.nil (w : World) (a : Option Addr) : PairsR w a 0 [] := SlR.nil w a 2
end Go.Proofs.YtidboecjllaofaaGreat

/- The small functions of the package tap: within, unless, first, divisor .. -/
namespace Go.Proofs.YtidboecjllaofaaGreat
open Go.RowKit
set_option linter.unusedVariables false
set_option linter.unusedSimpArgs false

theorem t_unless_any (b : Bool) (e : Int) (w : World) : Calls Tryz.prog 115 #[.bool b, .int .i64 e] w fun e' w' => e' = .returned (.int .i64 (unl b e)) ∧ w = w' := by
  cases b
  all_goals
    go_enter Tryz.func115, Tryz.ntmps115
    go_wp2
    go_ret
    exact ⟨rfl, rfl⟩
theorem t_within_any (n lo hi : Int) (w : World) : Calls Tryz.prog 111 #[.int .i64 n, .int .i64 lo, .int .i64 hi] w fun e' w' => e' = .returned (.bool (wi n lo hi)) ∧ w = w' := by
  by_cases h : lo ≤ n
  · go_enter Tryz.func111, Tryz.ntmps111
    go_wp2
    go_ret
    exact ⟨by simp [wi, h], rfl⟩
  · have h' : n < lo := by omega
    go_enter Tryz.func111, Tryz.ntmps111
    go_wp2
    go_ret
    exact ⟨ret_bool (by simp [wi]; omega), rfl⟩
theorem t_small_any (n m : Int) (w : World) (h0 : 0 ≤ m) (h1 : m ≤ 1000000000000) : Calls Tryz.prog 113 #[.int .i64 n, .int .i64 m] w fun e' w' => e' = .returned (.bool (wi n (-m) m)) ∧ w = w' := by
  go_enter Tryz.func113, Tryz.ntmps113
  go_wp2_with (go_at_call 111; refine (t_within_any _ _ _ _).mono ?_; rintro e w' ⟨rfl, rfl⟩)
  go_ret
  exact ⟨rfl, rfl⟩
theorem t_divisor_any (a b : Int) (w : World) (ha0 : -9223372036854775807 ≤ a) (ha1 : a ≤ 9223372036854775807) (hb0 : -9223372036854775807 ≤ b) (hb1 : b ≤ 9223372036854775807) :
    Calls Tryz.prog 190 #[.int .i64 a, .int .i64 b] w fun e' w' => e' = .returned (.int .i64 (gc a b)) ∧ ∃ n, w' = w.drewN n := by
  go_enter Tryz.func190, Tryz.ntmps190
  go_wp2
  go_loopw [0, 1] (fun x y wr => ∃ c d : Int, x = .int .i64 c ∧ y = .int .i64 d ∧ gc c d = gc a b ∧ -9223372036854775807 ≤ c ∧ c ≤ 9223372036854775807 ∧ -9223372036854775807 ≤ d ∧ d ≤ 9223372036854775807 ∧ ∃ n, wr = w.drewN n) (fun _ y _ => (intOf y).natAbs)
  case atStart => exact ⟨a, b, rfl, rfl, rfl, ha0, ha1, hb0, hb1, 0, rfl⟩
  case round =>
    obtain ⟨c, d, rfl, rfl, hg, hc0, hc1, hd0, hd1, n, rfl⟩ := hrel
    have HG := Lib.hid hg; clear hg
    by_cases hd : d = 0
    · subst hd
      go_wp2
      all_goals go_ret
      all_goals exact ⟨ret_int (by rw [← HG.out, gc_zero]; unfold sz; omega), n, rfl⟩
    · have hd' : (d == 0) = false := by simpa using hd
      have hd'' : (d != 0) = true := by simpa using hd
      go_wp2
      go_region
      go_wp2
      have hlt := tmod_lt c d hd
      have hg := gcd_tmod c d
      have hbd := hlt
      go_roundw
      case rel => exact ⟨d, c.tmod d, rfl, rfl, by rw [← HG.out]; unfold gc; rw [hg], by omega, by omega, by omega, by omega, n + 1, rfl⟩
      case measure => simpa [intOf] using hlt
theorem t_lowest_any (a b : Int) (w : World) (ha0 : -9000000000000000000 ≤ a) (ha1 : a ≤ 9000000000000000000) (hb0 : 0 < b) (hb1 : b ≤ 9000000000000000000) :
    Calls Tryz.prog 161 #[.int .i64 a, .int .i64 b] w fun e' w' => e' = .returned (.agg #[.int .i64 (a.tdiv (gc a b)), .int .i64 (b / gc a b)]) ∧ Below w.heap.size w w' := by
  have hg0 := gc_pos (a := a) hb0
  have hg1 := gc_le (a := a) hb0
  have hq := tdiv_bd a (gc a b) 9000000000000000000 (by omega) (by omega)
  have hgn : (gc a b == 0) = false := by simp; omega
  go_enter Tryz.func161, Tryz.ntmps161
  go_wp2_with fail
  refine (t_divisor_any _ _ _ (by omega) (by omega) (by omega) (by omega)).mono ?_
  rintro e w' ⟨rfl, n, rfl⟩
  go_wp2_with fail
  go_region
  go_wp2
  refine bodyPost_ret (v := .agg #[.int .i64 (a.tdiv (gc a b)), .int .i64 (b / gc a b)]) (by simp [results, Tryz.results161, go_sem]) rfl ⟨rfl, ?_⟩
  (repeat' (first | (with_reducible exact Below.refl _ _) | (with_reducible assumption) | (with_reducible refine Below.drewN ?_ _) | (with_reducible refine Below.alloc ?_ ?_ _) | (with_reducible refine Below.drew ?_) | (with_reducible refine Below.setCell ?_ ?_ _) | (with_reducible refine Below.step (by assumption) ?_ ?_) | (with_reducible exact And.left (by assumption)) | go_size))
theorem t_first_any (l : List Int) (n c b o : Nat) (w : World) (hn : n ≤ 1000) (hl : l.length = n) (hc : ∀ i, i < n → w.cell? ⟨b, o + i, none⟩ = some (.int .i64 (l.getD i 0))) :
    Calls Tryz.prog 114 #[.slice (some ⟨b, o, none⟩) n c] w fun e' w' => e' = .returned (.int .i64 (firstErr l)) ∧ w = w' := by
  have HL := Lib.hid hl; clear hl
  have HC := Lib.hid hc; clear hc
  go_enter Tryz.func114, Tryz.ntmps114
  go_wp2
  go_loop [7] (fun i => ∃ k : Nat, i = .int .i64 k ∧ k ≤ n ∧ Hid (firstErr (l.drop k) = firstErr l)) (fun i => n - (intOf i).toNat)
  case atStart => exact ⟨0, rfl, Nat.zero_le _, rfl⟩
  case round =>
    obtain ⟨k, rfl, hk, hF⟩ := hrel
    by_cases hlt : k < n
    · have hck := HC.out k hlt
      have hF' := hF.out
      rw [drop_at l k 0 (by rw [HL.out]; exact hlt), firstErr] at hF'
      have HF := Lib.hid hF'; clear hF' hF
      obtain ⟨x, hx⟩ : ∃ x, x = l.getD k 0 := ⟨_, rfl⟩
      rw [← hx] at hck HF
      clear hx
      by_cases h0 : x = 0
      · subst h0
        go_wp2
        go_round
        case rel => exact ⟨k + 1, by go_num, by omega, Lib.hid (by simpa using HF.out)⟩
        case measure => simp [intOf]; omega
      · have h0' : (x != 0) = true := by simpa using h0
        go_wp2
        go_ret
        exact ⟨ret_int (by rw [← HF.out, if_neg h0]), rfl⟩
    · go_wp2
      go_ret
      exact ⟨ret_int (by rw [← hF.out, drop_end l k (by rw [HL.out]; omega)]; rfl), rfl⟩
theorem t_first2 (e1 e2 : Int) (w0 w : World) (t B : Nat) (hw : w.heap = (w0.alloc (.cells #[.int .i64 e1, .int .i64 e2] t)).heap) (hB : B = w0.heap.size) :
    Calls Tryz.prog 114 #[.slice (some ⟨B, 0, none⟩) 2 2] w fun e' w' => e' = .returned (.int .i64 (firstErr [e1, e2])) ∧ w = w' := by
  refine t_first_any [e1, e2] 2 2 B 0 _ (by omega) rfl (fun i hi => ?_)
  match i, hi with
  | 0, _ => exact cell_lit w0 w [.int .i64 e1, .int .i64 e2] t B 0 _ hw hB rfl
  | 1, _ => exact cell_lit w0 w [.int .i64 e1, .int .i64 e2] t B 1 _ hw hB rfl
theorem t_first3 (e1 e2 e3 : Int) (w0 w : World) (t B : Nat) (hw : w.heap = (w0.alloc (.cells #[.int .i64 e1, .int .i64 e2, .int .i64 e3] t)).heap) (hB : B = w0.heap.size) :
    Calls Tryz.prog 114 #[.slice (some ⟨B, 0, none⟩) 3 3] w fun e' w' => e' = .returned (.int .i64 (firstErr [e1, e2, e3])) ∧ w = w' := by
  refine t_first_any [e1, e2, e3] 3 3 B 0 _ (by omega) rfl (fun i hi => ?_)
  match i, hi with
  | 0, _ => exact cell_lit w0 w [.int .i64 e1, .int .i64 e2, .int .i64 e3] t B 0 _ hw hB rfl
  | 1, _ => exact cell_lit w0 w [.int .i64 e1, .int .i64 e2, .int .i64 e3] t B 1 _ hw hB rfl
  | 2, _ => exact cell_lit w0 w [.int .i64 e1, .int .i64 e2, .int .i64 e3] t B 2 _ hw hB rfl
theorem t_first4 (e1 e2 e3 e4 : Int) (w0 w : World) (t B : Nat) (hw : w.heap = (w0.alloc (.cells #[.int .i64 e1, .int .i64 e2, .int .i64 e3, .int .i64 e4] t)).heap) (hB : B = w0.heap.size) :
    Calls Tryz.prog 114 #[.slice (some ⟨B, 0, none⟩) 4 4] w fun e' w' => e' = .returned (.int .i64 (firstErr [e1, e2, e3, e4])) ∧ w = w' := by
  refine t_first_any [e1, e2, e3, e4] 4 4 B 0 _ (by omega) rfl (fun i hi => ?_)
  match i, hi with
  | 0, _ => exact cell_lit w0 w [.int .i64 e1, .int .i64 e2, .int .i64 e3, .int .i64 e4] t B 0 _ hw hB rfl
  | 1, _ => exact cell_lit w0 w [.int .i64 e1, .int .i64 e2, .int .i64 e3, .int .i64 e4] t B 1 _ hw hB rfl
  | 2, _ => exact cell_lit w0 w [.int .i64 e1, .int .i64 e2, .int .i64 e3, .int .i64 e4] t B 2 _ hw hB rfl
  | 3, _ => exact cell_lit w0 w [.int .i64 e1, .int .i64 e2, .int .i64 e3, .int .i64 e4] t B 3 _ hw hB rfl
theorem t_first5 (e1 e2 e3 e4 e5 : Int) (w0 w : World) (t B : Nat) (hw : w.heap = (w0.alloc (.cells #[.int .i64 e1, .int .i64 e2, .int .i64 e3, .int .i64 e4, .int .i64 e5] t)).heap) (hB : B = w0.heap.size) :
    Calls Tryz.prog 114 #[.slice (some ⟨B, 0, none⟩) 5 5] w fun e' w' => e' = .returned (.int .i64 (firstErr [e1, e2, e3, e4, e5])) ∧ w = w' := by
  refine t_first_any [e1, e2, e3, e4, e5] 5 5 B 0 _ (by omega) rfl (fun i hi => ?_)
  match i, hi with
  | 0, _ => exact cell_lit w0 w [.int .i64 e1, .int .i64 e2, .int .i64 e3, .int .i64 e4, .int .i64 e5] t B 0 _ hw hB rfl
  | 1, _ => exact cell_lit w0 w [.int .i64 e1, .int .i64 e2, .int .i64 e3, .int .i64 e4, .int .i64 e5] t B 1 _ hw hB rfl
  | 2, _ => exact cell_lit w0 w [.int .i64 e1, .int .i64 e2, .int .i64 e3, .int .i64 e4, .int .i64 e5] t B 2 _ hw hB rfl
  | 3, _ => exact cell_lit w0 w [.int .i64 e1, .int .i64 e2, .int .i64 e3, .int .i64 e4, .int .i64 e5] t B 3 _ hw hB rfl
  | 4, _ => exact cell_lit w0 w [.int .i64 e1, .int .i64 e2, .int .i64 e3, .int .i64 e4, .int .i64 e5] t B 4 _ hw hB rfl

/-- A fraction as a value. -/
def frV (p : Int × Int) : Value := .agg #[.int .i64 p.1, .int .i64 p.2]
theorem t_low_any (a b : Int) (w : World) (ha0 : -9000000000000000000 ≤ a) (ha1 : a ≤ 9000000000000000000) (hb0 : 0 < b) (hb1 : b ≤ 9000000000000000000) :
    Calls Tryz.prog 161 #[.int .i64 a, .int .i64 b] w fun e' w' => e' = .returned (.agg #[.int .i64 (low a b).1, .int .i64 (low a b).2]) ∧ Below w.heap.size w w' :=
  (t_lowest_any a b w ha0 ha1 hb0 hb1).mono fun e' w' h => h
theorem t_plus_any (a b c d : Int) (w : World) (h1 : -4000000000000000000 ≤ a * d ∧ a * d ≤ 4000000000000000000) (h2 : -4000000000000000000 ≤ c * b ∧ c * b ≤ 4000000000000000000) (h3 : 0 < b * d) (h4 : b * d ≤ 9000000000000000000) :
    Calls Tryz.prog 155 #[.agg #[.int .i64 a, .int .i64 b], .agg #[.int .i64 c, .int .i64 d]] w fun e' w' => e' = .returned (.agg #[.int .i64 (low (a * d + c * b) (b * d)).1, .int .i64 (low (a * d + c * b) (b * d)).2]) ∧ Below w.heap.size w w' := by
  have w1 : IntKind.i64.wrap (a * d) = a * d := by rw [IntKind.wrap_i64]; omega
  have w2 : IntKind.i64.wrap (c * b) = c * b := by rw [IntKind.wrap_i64]; omega
  have w3 : IntKind.i64.wrap (b * d) = b * d := by rw [IntKind.wrap_i64]; omega
  have w4 : IntKind.i64.wrap (a * d + c * b) = a * d + c * b := by rw [IntKind.wrap_i64]; omega
  have HL := Lib.hid (fun W => t_low_any (a * d + c * b) (b * d) W (by omega) (by omega) h3 h4)
  clear h1 h2 h3 h4
  go_enter Tryz.func155, Tryz.ntmps155
  go_wp2_with fail
  refine (HL.out _).mono ?_
  rintro e w' ⟨rfl, hb⟩
  have HB := Lib.hid hb
  have hz := hb.size
  simp only [World.size_alloc] at hz
  have t0 : w'.cell? ⟨w.heap.size + 1 + 1, 0, none⟩ = some (.int .i64 0) := by { rw [cellB hb _ _ (by first | (simp; done) | (simp; omega) | omega)]; all_goals (first | assumption | go_simp) }; have t1 : w'.cell? ⟨w.heap.size + 1 + 1, 1, none⟩ = some (.int .i64 0) := by { rw [cellB hb _ _ (by first | (simp; done) | (simp; omega) | omega)]; all_goals (first | assumption | go_simp) }; have f0 : w'.frozen? ⟨w.heap.size + 1 + 1, 0, none⟩ = false := by { rw [frozenB hb _ _ (by first | (simp; done) | (simp; omega) | omega)]; all_goals (first | assumption | go_simp) }; have f1 : w'.frozen? ⟨w.heap.size + 1 + 1, 1, none⟩ = false := by { rw [frozenB hb _ _ (by first | (simp; done) | (simp; omega) | omega)]; all_goals (first | assumption | go_simp) }; have l0 : w.heap.size + 1 + 1 < w'.heap.size := by { omega }
  clear hb
  go_wp2
  generalize hW : World.setCell (World.setCell _ _ _) _ _ = wz
  have r0 : wz.cell? ⟨w.heap.size + 1 + 1, 0, none⟩ = some (.int .i64 (low (a * d + c * b) (b * d)).1) := by { rw [← hW]; clear hW; go_simp }
  have r1 : wz.cell? ⟨w.heap.size + 1 + 1, 1, none⟩ = some (.int .i64 (low (a * d + c * b) (b * d)).2) := by { rw [← hW]; clear hW; go_simp }
  refine bodyPost_ret (v := .agg #[.int .i64 (low (a * d + c * b) (b * d)).1, .int .i64 (low (a * d + c * b) (b * d)).2]) (by simp [results, Tryz.results155, go_sem, r0, r1]) rfl ⟨rfl, ?_⟩
  rw [← hW]
  have := HB.out
  (repeat' (first | (with_reducible exact Below.refl _ _) | (with_reducible assumption) | (with_reducible refine Below.drewN ?_ _) | (with_reducible refine Below.alloc ?_ ?_ _) | (with_reducible refine Below.drew ?_) | (with_reducible refine Below.setCell ?_ ?_ _) | (with_reducible refine Below.step (by assumption) ?_ ?_) | (with_reducible exact And.left (by assumption)) | go_size))
theorem t_minus_any (a b c d : Int) (w : World) (h1 : -4000000000000000000 ≤ a * d ∧ a * d ≤ 4000000000000000000) (h2 : -4000000000000000000 ≤ c * b ∧ c * b ≤ 4000000000000000000) (h3 : 0 < b * d) (h4 : b * d ≤ 9000000000000000000) :
    Calls Tryz.prog 159 #[.agg #[.int .i64 a, .int .i64 b], .agg #[.int .i64 c, .int .i64 d]] w fun e' w' => e' = .returned (.agg #[.int .i64 (low (a * d - c * b) (b * d)).1, .int .i64 (low (a * d - c * b) (b * d)).2]) ∧ Below w.heap.size w w' := by
  have w1 : IntKind.i64.wrap (a * d) = a * d := by rw [IntKind.wrap_i64]; omega
  have w2 : IntKind.i64.wrap (c * b) = c * b := by rw [IntKind.wrap_i64]; omega
  have w3 : IntKind.i64.wrap (b * d) = b * d := by rw [IntKind.wrap_i64]; omega
  have w4 : IntKind.i64.wrap (a * d - c * b) = a * d - c * b := by rw [IntKind.wrap_i64]; omega
  have HL := Lib.hid (fun W => t_low_any (a * d - c * b) (b * d) W (by omega) (by omega) h3 h4)
  clear h1 h2 h3 h4
  go_enter Tryz.func159, Tryz.ntmps159
  go_wp2_with fail
  refine (HL.out _).mono ?_
  rintro e w' ⟨rfl, hb⟩
  have HB := Lib.hid hb
  have hz := hb.size
  simp only [World.size_alloc] at hz
  have t0 : w'.cell? ⟨w.heap.size + 1 + 1, 0, none⟩ = some (.int .i64 0) := by { rw [cellB hb _ _ (by first | (simp; done) | (simp; omega) | omega)]; all_goals (first | assumption | go_simp) }; have t1 : w'.cell? ⟨w.heap.size + 1 + 1, 1, none⟩ = some (.int .i64 0) := by { rw [cellB hb _ _ (by first | (simp; done) | (simp; omega) | omega)]; all_goals (first | assumption | go_simp) }; have f0 : w'.frozen? ⟨w.heap.size + 1 + 1, 0, none⟩ = false := by { rw [frozenB hb _ _ (by first | (simp; done) | (simp; omega) | omega)]; all_goals (first | assumption | go_simp) }; have f1 : w'.frozen? ⟨w.heap.size + 1 + 1, 1, none⟩ = false := by { rw [frozenB hb _ _ (by first | (simp; done) | (simp; omega) | omega)]; all_goals (first | assumption | go_simp) }; have l0 : w.heap.size + 1 + 1 < w'.heap.size := by { omega }
  clear hb
  go_wp2
  generalize hW : World.setCell (World.setCell _ _ _) _ _ = wz
  have r0 : wz.cell? ⟨w.heap.size + 1 + 1, 0, none⟩ = some (.int .i64 (low (a * d - c * b) (b * d)).1) := by { rw [← hW]; clear hW; go_simp }
  have r1 : wz.cell? ⟨w.heap.size + 1 + 1, 1, none⟩ = some (.int .i64 (low (a * d - c * b) (b * d)).2) := by { rw [← hW]; clear hW; go_simp }
  refine bodyPost_ret (v := .agg #[.int .i64 (low (a * d - c * b) (b * d)).1, .int .i64 (low (a * d - c * b) (b * d)).2]) (by simp [results, Tryz.results159, go_sem, r0, r1]) rfl ⟨rfl, ?_⟩
  rw [← hW]
  have := HB.out
  (repeat' (first | (with_reducible exact Below.refl _ _) | (with_reducible assumption) | (with_reducible refine Below.drewN ?_ _) | (with_reducible refine Below.alloc ?_ ?_ _) | (with_reducible refine Below.drew ?_) | (with_reducible refine Below.setCell ?_ ?_ _) | (with_reducible refine Below.step (by assumption) ?_ ?_) | (with_reducible exact And.left (by assumption)) | go_size))
theorem t_size_any (a b : Int) (w : World) (h0 : -9223372036854775807 ≤ a) (h1 : a ≤ 9223372036854775807) : Calls Tryz.prog 172 #[.agg #[.int .i64 a, .int .i64 b]] w fun e' w' => e' = .returned (.agg #[.int .i64 (sz a), .int .i64 b]) ∧ Below w.heap.size w w' := by
  go_enter Tryz.func172, Tryz.ntmps172
  go_wp2
  all_goals
    refine bodyPost_ret (v := .agg #[.int .i64 (sz a), .int .i64 b]) (by simp [results, Tryz.results172, go_sem]; unfold sz; omega) rfl ⟨rfl, ?_⟩
    (repeat' (first | (with_reducible exact Below.refl _ _) | (with_reducible assumption) | (with_reducible refine Below.drewN ?_ _) | (with_reducible refine Below.alloc ?_ ?_ _) | (with_reducible refine Below.drew ?_) | (with_reducible refine Below.setCell ?_ ?_ _) | (with_reducible refine Below.step (by assumption) ?_ ?_) | (with_reducible exact And.left (by assumption)) | go_size))
theorem t_whole_any (n : Int) (w : World) : Calls Tryz.prog 153 #[.int .i64 n] w fun e' w' => e' = .returned (.agg #[.int .i64 n, .int .i64 1]) ∧ Below w.heap.size w w' := by
  go_enter Tryz.func153, Tryz.ntmps153
  go_wp2
  refine bodyPost_ret (v := .agg #[.int .i64 n, .int .i64 1]) (by simp [results, Tryz.results153, go_sem]) rfl ⟨rfl, ?_⟩
  (repeat' (first | (with_reducible exact Below.refl _ _) | (with_reducible assumption) | (with_reducible refine Below.drewN ?_ _) | (with_reducible refine Below.alloc ?_ ?_ _) | (with_reducible refine Below.drew ?_) | (with_reducible refine Below.setCell ?_ ?_ _) | (with_reducible refine Below.step (by assumption) ?_ ?_) | (with_reducible exact And.left (by assumption)) | go_size))
theorem t_exceeds_any (a b n : Int) (w : World) (h : -9223372036854775807 ≤ n * b ∧ n * b ≤ 9223372036854775807) : Calls Tryz.prog 181 #[.agg #[.int .i64 a, .int .i64 b], .int .i64 n] w fun e' w' => e' = .returned (.bool (decide (n * b < a))) ∧ Below w.heap.size w w' := by
  have w1 : IntKind.i64.wrap (n * b) = n * b := by rw [IntKind.wrap_i64]; omega
  clear h
  go_enter Tryz.func181, Tryz.ntmps181
  go_wp2
  go_ret
  refine ⟨ret_bool (by simp), ?_⟩
  (repeat' (first | (with_reducible exact Below.refl _ _) | (with_reducible assumption) | (with_reducible refine Below.drewN ?_ _) | (with_reducible refine Below.alloc ?_ ?_ _) | (with_reducible refine Below.drew ?_) | (with_reducible refine Below.setCell ?_ ?_ _) | (with_reducible refine Below.step (by assumption) ?_ ?_) | (with_reducible exact And.left (by assumption)) | go_size))
theorem t_isSmall_any (a b : Int) (w : World) : Calls Tryz.prog 154 #[.agg #[.int .i64 a, .int .i64 b]] w fun e' w' => e' = .returned (.bool (wi a (-1000000000) 1000000000 && decide (b ≤ 1000000000))) ∧ Below w.heap.size w w' := by
  have HS := Lib.hid (fun W => t_small_any a 1000000000 W (by omega) (by omega))
  cases h : wi a (-1000000000) 1000000000
  all_goals
    rw [h] at HS
    go_enter Tryz.func154, Tryz.ntmps154
    go_wp2_with fail
    refine (HS.out _).mono ?_
    rintro e w' ⟨rfl, rfl⟩
    go_wp2
    go_ret
    refine ⟨ret_bool (by simp), ?_⟩
    (repeat' (first | (with_reducible exact Below.refl _ _) | (with_reducible assumption) | (with_reducible refine Below.drewN ?_ _) | (with_reducible refine Below.alloc ?_ ?_ _) | (with_reducible refine Below.drew ?_) | (with_reducible refine Below.setCell ?_ ?_ _) | (with_reducible refine Below.step (by assumption) ?_ ?_) | (with_reducible exact And.left (by assumption)) | go_size))
/-- A contact is closed in a state; a contact turned. -/
theorem has_bits : ∀ s < 64, ∀ i < 8, (bits .and .i64 (((s : Nat) : Int) / 2 ^ i) 1 == 1) = s.testBit i := by decide +kernel
theorem turn_bits : ∀ s < 64, ∀ i < 6, bits .xor .i64 ((s : Nat) : Int) (wrap64 (2 ^ i)) = ((s ^^^ 2 ^ i : Nat) : Int) := by decide +kernel
theorem turn_lt : ∀ n < 7, ∀ s < 2 ^ n, ∀ i < n, s ^^^ 2 ^ i < 2 ^ n := by decide +kernel
theorem has_any (s i : Nat) (w : World) (hs : s < 64) (hi : i < 8) : Calls Tryz.prog 135 #[.int .i64 (s : Int), .int .i64 (i : Int)] w fun e' w' => e' = .returned (.bool (s.testBit i)) ∧ w = w' := by
  have e1 := has_bits s hs i hi
  have i0 : (0 : Int) ≤ (i : Int) := by omega
  have i1 : (i : Int) ≤ 64 := by omega
  have i2 : ((i : Int)).toNat = i := by omega
  go_enter Tryz.func135, Tryz.ntmps135
  go_wp2
  go_ret
  exact ⟨ret_bool (by rw [← e1]), rfl⟩
theorem turned_any (s i : Nat) (w : World) (hs : s < 64) (hi : i < 6) : Calls Tryz.prog 137 #[.int .i64 (s : Int), .int .i64 (i : Int)] w fun e' w' => e' = .returned (.int .i64 ((s ^^^ 2 ^ i : Nat) : Int)) ∧ w = w' := by
  have e1 := turn_bits s hs i hi
  have i0 : (0 : Int) ≤ (i : Int) := by omega
  have i1 : (i : Int) ≤ 64 := by omega
  have i2 : ((i : Int)).toNat = i := by omega
  go_enter Tryz.func137, Tryz.ntmps137
  go_wp2
  go_ret
  exact ⟨ret_int (by rw [← e1]), rfl⟩
end Go.Proofs.YtidboecjllaofaaGreat
